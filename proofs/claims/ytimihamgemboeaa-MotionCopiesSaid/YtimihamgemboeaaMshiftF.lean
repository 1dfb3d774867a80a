/-
  Walks through the functions of the program, by contract.
-/
import Derived.Test.YtimihamgemboeaaMotL
set_option linter.all false
set_option linter.unusedVariables false
set_option linter.unusedSimpArgs false
set_option linter.unnecessarySimpa false
namespace Go.Proofs
open Go.Aw
set_option maxRecDepth 100000
set_option maxHeartbeats 4000000

theorem shift_none (s n : Int) (h : s < 0 ∨ 228 ≤ s) : ACalls Try.prog 9 [.int .i64 s, .int .u8 n] [] fun r H => r = .int .i64 (shiftP s (stopI n)) ∧ H = [] := by
  have e : shiftP s (stopI n) = 0 := by unfold shiftP; rw [if_pos h]
  rw [e]
  rcases h with h | h
  · refine ACalls.code tabOk h9 Try.func9 Try.call9 ok9 ?_
    conv => whnf
    refine Bif.knT ?_ fun h0 => ?_
    · (simp_all; done)
    rw [h0]
    conv => whnf
    exact ⟨rfl, rfl⟩
  · refine ACalls.code tabOk h9 Try.func9 Try.call9 ok9 ?_
    conv => whnf
    refine Bif.knF ?_ fun h0 => ?_
    · (simp_all; omega)
    rw [h0]
    conv => whnf
    refine Bif.knT ?_ fun h1 => ?_
    · (simp_all; done)
    rw [h1]
    conv => whnf
    exact ⟨rfl, rfl⟩


theorem shift_0 (s n : Int) (h : s = 0) : ACalls Try.prog 9 [.int .i64 s, .int .u8 n] [] fun r H => r = .int .i64 (shiftP s (stopI n)) ∧ H = [] := by
  have e : shiftP s (stopI n) = 0 + outs s (stopI n).toNat := by unfold shiftP; rw [if_neg (by omega)]; first | rw [if_pos (by omega)] | rw [if_neg (by omega)]
  have hb := stop_bd n
  have h8 : stopI 0 = 8 := by rw [stopI_eq]; rfl
  rw [e]
  refine ACalls.code tabOk h9 Try.func9 Try.call9 ok9 ?_
  conv => whnf
  refine Bif.knF ?_ fun h0 => ?_
  · (simp_all; done)
  rw [h0]
  conv => whnf
  refine Bif.knF ?_ fun h1 => ?_
  · (simp_all; done)
  rw [h1]
  conv => whnf
  refine Bif.knF ?_ fun h2 => ?_
  · (simp_all; done)
  rw [h2]
  conv => whnf
  refine ACalls.useE (motion_new) [] rfl (by (conv => whnf); try rfl) (by (conv => whnf); try rfl) ?_
  conv => whnf
  refine ACalls.useE (motion_strobe _ _ _) [0] rfl (by (conv => whnf); try rfl) (by (conv => whnf); try rfl) ?_
  conv => whnf
  refine ALoop.fd (σ := Nat × Int × Int) (fun q => [.int .i64 s, .int .u8 n, .chan none, .chan none, .int .i64 0, .bool false, .int .i64 q.2.1, .pointer (some ⟨0, 0, none⟩), .int .i64 q.2.2, .chan none, .chan none, .chan none, .chan none, .chan none, .chan none, .chan none, .chan none, .chan none, .chan none, .chan none, .chan none, .chan none, .chan none, .chan none, .chan none, .chan none, .chan none, .chan none, .chan none, .chan none, .chan none, .chan none, .chan none, .chan none, .chan none, .chan none, .chan none, .chan none, .chan none, .chan none, .chan none, .chan none, .chan none, .chan none, .chan none, .chan none, .chan none, .chan none, .chan none, .chan none, .chan none, .chan none, .chan none, .chan none, .chan none, .chan none, .chan none, .chan none, .chan none, .chan none]) (fun q => [(MSat s q.1 (stopI n) 8 8 8 8).blk]) (fun q => q.2.1 = 0 + acc s q.1 (stopI n) ∧ q.2.2 = s + q.1 ∧ q.1 ≤ 71) (fun q => 100 - q.1) (0, 0, s) [] rfl ?hh ?hi (fun _ => ⟨rfl, rfl, rfl, rfl⟩) ?round
  case hh => rw [MSat_0 hb.1 (by decide) (by decide) (by decide) (by decide)]; rfl
  case hi => exact ⟨by rw [acc_0 hb.1]; first | rfl | (show 0 = _; rw [wrap64 (n := 76 - s) (by omega) (by omega), wrap64 (by split <;> omega) (by split <;> omega)]; omega), by simp, Nat.zero_le _⟩
  rintro ⟨i, o, clk⟩ ⟨ho, hclk, hi⟩ R hR
  dsimp only at ho hclk hi
  subst hclk
  have hs : 0 ≤ s ∧ s < 228 := by omega
  have hk : (s + (i : Int)).tmod 228 % 4 = (s + i) % 4 := by rw [Int.tmod_eq_emod_of_nonneg (by omega)]; omega
  have hkt : (s + (i : Int)).tmod 228 = (s + i) % 228 := Int.tmod_eq_emod_of_nonneg (by omega)
  have hbd := MSat_bd s hs.1 i (stopI n) 8 8 8 8
  have ew : IntKind.i64.wrap (s + (i : Int) + 1) = s + ((i + 1 : Nat) : Int) := by rw [wrap64 (by omega) (by omega)]; omega
  conv => whnf
  refine ACalls.useE (motion_busy _ _ _) [0] rfl (by (conv => whnf); try rfl) (by (conv => whnf); try rfl) ?_
  conv => whnf
  refine Bif.of (fun h0 => ?_) fun h0 => ?_
  · have hc : cntI s i < 16 := (MSat_c ..).1 (by simpa using h0)
    have hi' := cnt_i hs.1 hc
    have hstep := MSat_step hs.1 hc hk (stopI n) 8 8 8 8
    have hm0 : (MSat s i (stopI n) 8 8 8 8).m0 = decide (cntI s i ≤ stopI n) := by unfold MSat; rw [if_pos hc]
    have hout := MSat_out hc hk (stopI n) 8 8 8 8 (stopI n)
    have hacc := acc_step hs.1 i hb.1
    have hob := outs_bd s (if cntI s i < stopI n then cntI s i else stopI n).toNat
    have hob2 : 0 ≤ acc s i (stopI n) ∧ acc s i (stopI n) ≤ 16 := by unfold acc; refine ⟨hob.1, Int.le_trans hob.2 ?_⟩; split <;> omega
    have hdk : dk s (s + (i : Int)) = (decide ((s + (i : Int)) % 228 < 68) || (false && decide (s + (i : Int) < 76))) := by
      have hlate : (decide (s > 0) && decide (s < 76)) = false := by simp; omega
      unfold dk; rw [hlate]
    rw [← hm0] at hout
    rw [hdk] at hacc
    have hd1 : decide ((s + (i : Int)).tmod 228 < 68) = decide ((s + (i : Int)) % 228 < 68) := by rw [hkt]
    generalize (decide (3 ≤ i) && decide ((s + (i : Int)) % 4 = 0) && decide (cntI s i < stopI n)) = M at hacc hout
    generalize hD1 : decide ((s + (i : Int)) % 228 < 68) = D1 at hacc hd1
    generalize hD2 : decide (s + (i : Int) < 76) = D2 at hacc
    clear hD1 hdk hm0 hob hkt hk
    conv => whnf
    refine ACalls.useE (motion_step _ _ _ _ _ _ _ _ _ _ _ _ _ ?_ ?_) [0] rfl (by (conv => whnf); try rfl) (by (conv => whnf); try rfl) ?_
    · exact hbd.1
    · exact hbd.2
    conv => whnf
    rw [hout]
    conv => whnf
    rw [hd1]
    conv => whnf
    refine Bif.of (fun h0 => ?_) fun h0 => ?_
    · rw [h0]
      conv => whnf
      refine Bif.of (fun h1 => ?_) fun h1 => ?_
      · rw [h1]
        conv => whnf
        (have h9 : acc s (i + 1) (stopI n) = acc s i (stopI n) + 1 := (by clear hR hstep hbd hout ew hd1; simp_all); rw [ew]; exact hR (i + 1, IntKind.i64.wrap (o + 1), s + ((i + 1 : Nat) : Int)) _ _ _ rfl (by rw [← hstep, ← h8]; rfl) ⟨by show IntKind.i64.wrap (o + 1) = _; rw [h9, wrap64 (by omega) (by omega)]; omega, rfl, by show i + 1 ≤ 71; omega⟩ (by show 100 - (i + 1) < 100 - i; omega))
      · rw [h1]
        conv => whnf
        (have h9 : acc s (i + 1) (stopI n) = acc s i (stopI n) := (by clear hR hstep hbd hout ew hd1; simp_all); rw [ew]; exact hR (i + 1, o, s + ((i + 1 : Nat) : Int)) _ _ _ rfl (by rw [← hstep, ← h8]; rfl) ⟨by show o = _; rw [h9]; exact ho, rfl, by show i + 1 ≤ 71; omega⟩ (by show 100 - (i + 1) < 100 - i; omega))
    · rw [h0]
      conv => whnf
      refine Bif.of (fun h2 => ?_) fun h2 => ?_
      · rw [h2]
        conv => whnf
        (have h9 : acc s (i + 1) (stopI n) = acc s i (stopI n) := (by clear hR hstep hbd hout ew hd1; simp_all); rw [ew]; exact hR (i + 1, o, s + ((i + 1 : Nat) : Int)) _ _ _ rfl (by rw [← hstep, ← h8]; rfl) ⟨by show o = _; rw [h9]; exact ho, rfl, by show i + 1 ≤ 71; omega⟩ (by show 100 - (i + 1) < 100 - i; omega))
      · rw [h2]
        conv => whnf
        (have h9 : acc s (i + 1) (stopI n) = acc s i (stopI n) := (by clear hR hstep hbd hout ew hd1; simp_all); rw [ew]; exact hR (i + 1, o, s + ((i + 1 : Nat) : Int)) _ _ _ rfl (by rw [← hstep, ← h8]; rfl) ⟨by show o = _; rw [h9]; exact ho, rfl, by show i + 1 ≤ 71; omega⟩ (by show 100 - (i + 1) < 100 - i; omega))
  · have hc : ¬ cntI s i < 16 := fun h => by
      have := (MSat_c (s := s) (i := i) (stopI n) 8 8 8 8).2 h
      simp at h0
      omega
    have hend := acc_end hc hb.2
    conv => whnf
    (rw [← hend, ← ho]; exact ⟨rfl, rfl⟩)

theorem shift_1 (s n : Int) (h : 0 < s ∧ s < 76) : ACalls Try.prog 9 [.int .i64 s, .int .u8 n] [] fun r H => r = .int .i64 (shiftP s (stopI n)) ∧ H = [] := by
  have e : shiftP s (stopI n) = (- (if 8 < 76 - s then 8 else 76 - s)) + outs s (stopI n).toNat := by unfold shiftP; rw [if_neg (by omega)]; first | rw [if_pos (by omega)] | rw [if_neg (by omega)]
  have hb := stop_bd n
  have h8 : stopI 0 = 8 := by rw [stopI_eq]; rfl
  rw [e]
  refine ACalls.code tabOk h9 Try.func9 Try.call9 ok9 ?_
  conv => whnf
  refine Bif.knF ?_ fun h0 => ?_
  · (simp_all; omega)
  rw [h0]
  conv => whnf
  refine Bif.knF ?_ fun h1 => ?_
  · (simp_all; omega)
  rw [h1]
  conv => whnf
  refine Bif.knT ?_ fun h2 => ?_
  · (simp_all; done)
  rw [h2]
  conv => whnf
  refine Bif.knT ?_ fun h3 => ?_
  · (simp_all; done)
  rw [h3]
  conv => whnf
  refine ACalls.useE (motion_new) [] rfl (by (conv => whnf); try rfl) (by (conv => whnf); try rfl) ?_
  conv => whnf
  refine ACalls.useE (motion_strobe _ _ _) [0] rfl (by (conv => whnf); try rfl) (by (conv => whnf); try rfl) ?_
  conv => whnf
  refine ALoop.fd (σ := Nat × Int × Int) (fun q => [.int .i64 s, .int .u8 n, .chan none, .chan none, .int .i64 0, .bool true, .int .i64 q.2.1, .pointer (some ⟨0, 0, none⟩), .int .i64 q.2.2, .chan none, .chan none, .chan none, .chan none, .chan none, .chan none, .chan none, .chan none, .chan none, .chan none, .chan none, .chan none, .chan none, .chan none, .chan none, .chan none, .chan none, .chan none, .chan none, .chan none, .chan none, .chan none, .chan none, .chan none, .chan none, .chan none, .chan none, .chan none, .chan none, .chan none, .chan none, .chan none, .chan none, .chan none, .chan none, .chan none, .chan none, .chan none, .chan none, .chan none, .chan none, .chan none, .chan none, .chan none, .chan none, .chan none, .chan none, .chan none, .chan none, .chan none, .chan none]) (fun q => [(MSat s q.1 (stopI n) 8 8 8 8).blk]) (fun q => q.2.1 = (- (if 8 < 76 - s then 8 else 76 - s)) + acc s q.1 (stopI n) ∧ q.2.2 = s + q.1 ∧ q.1 ≤ 71) (fun q => 100 - q.1) (0, (IntKind.i64.wrap (0 - (if 8 < IntKind.i64.wrap (76 - s) then 8 else IntKind.i64.wrap (76 - s)))), s) [] rfl ?hh ?hi (fun _ => ⟨rfl, rfl, rfl, rfl⟩) ?round
  case hh => rw [MSat_0 hb.1 (by decide) (by decide) (by decide) (by decide)]; rfl
  case hi => exact ⟨by rw [acc_0 hb.1]; first | rfl | (show (IntKind.i64.wrap (0 - (if 8 < IntKind.i64.wrap (76 - s) then 8 else IntKind.i64.wrap (76 - s)))) = _; rw [wrap64 (n := 76 - s) (by omega) (by omega), wrap64 (by split <;> omega) (by split <;> omega)]; omega), by simp, Nat.zero_le _⟩
  rintro ⟨i, o, clk⟩ ⟨ho, hclk, hi⟩ R hR
  dsimp only at ho hclk hi
  subst hclk
  have hs : 0 ≤ s ∧ s < 228 := by omega
  have hk : (s + (i : Int)).tmod 228 % 4 = (s + i) % 4 := by rw [Int.tmod_eq_emod_of_nonneg (by omega)]; omega
  have hkt : (s + (i : Int)).tmod 228 = (s + i) % 228 := Int.tmod_eq_emod_of_nonneg (by omega)
  have hbd := MSat_bd s hs.1 i (stopI n) 8 8 8 8
  have ew : IntKind.i64.wrap (s + (i : Int) + 1) = s + ((i + 1 : Nat) : Int) := by rw [wrap64 (by omega) (by omega)]; omega
  conv => whnf
  refine ACalls.useE (motion_busy _ _ _) [0] rfl (by (conv => whnf); try rfl) (by (conv => whnf); try rfl) ?_
  conv => whnf
  refine Bif.of (fun h0 => ?_) fun h0 => ?_
  · have hc : cntI s i < 16 := (MSat_c ..).1 (by simpa using h0)
    have hi' := cnt_i hs.1 hc
    have hstep := MSat_step hs.1 hc hk (stopI n) 8 8 8 8
    have hm0 : (MSat s i (stopI n) 8 8 8 8).m0 = decide (cntI s i ≤ stopI n) := by unfold MSat; rw [if_pos hc]
    have hout := MSat_out hc hk (stopI n) 8 8 8 8 (stopI n)
    have hacc := acc_step hs.1 i hb.1
    have hob := outs_bd s (if cntI s i < stopI n then cntI s i else stopI n).toNat
    have hob2 : 0 ≤ acc s i (stopI n) ∧ acc s i (stopI n) ≤ 16 := by unfold acc; refine ⟨hob.1, Int.le_trans hob.2 ?_⟩; split <;> omega
    have hdk : dk s (s + (i : Int)) = (decide ((s + (i : Int)) % 228 < 68) || (true && decide (s + (i : Int) < 76))) := by
      have hlate : (decide (s > 0) && decide (s < 76)) = true := by simp; omega
      unfold dk; rw [hlate]
    rw [← hm0] at hout
    rw [hdk] at hacc
    have hd1 : decide ((s + (i : Int)).tmod 228 < 68) = decide ((s + (i : Int)) % 228 < 68) := by rw [hkt]
    generalize (decide (3 ≤ i) && decide ((s + (i : Int)) % 4 = 0) && decide (cntI s i < stopI n)) = M at hacc hout
    generalize hD1 : decide ((s + (i : Int)) % 228 < 68) = D1 at hacc hd1
    generalize hD2 : decide (s + (i : Int) < 76) = D2 at hacc
    clear hD1 hdk hm0 hob hkt hk
    conv => whnf
    refine ACalls.useE (motion_step _ _ _ _ _ _ _ _ _ _ _ _ _ ?_ ?_) [0] rfl (by (conv => whnf); try rfl) (by (conv => whnf); try rfl) ?_
    · exact hbd.1
    · exact hbd.2
    conv => whnf
    rw [hout]
    conv => whnf
    rw [hd1]
    conv => whnf
    refine Bif.of (fun h0 => ?_) fun h0 => ?_
    · rw [h0]
      conv => whnf
      refine Bif.of (fun h1 => ?_) fun h1 => ?_
      · rw [h1]
        conv => whnf
        (have h9 : acc s (i + 1) (stopI n) = acc s i (stopI n) + 1 := (by clear hR hstep hbd hout ew hd1; simp_all); rw [ew]; exact hR (i + 1, IntKind.i64.wrap (o + 1), s + ((i + 1 : Nat) : Int)) _ _ _ rfl (by rw [← hstep, ← h8]; rfl) ⟨by show IntKind.i64.wrap (o + 1) = _; rw [h9, wrap64 (by omega) (by omega)]; omega, rfl, by show i + 1 ≤ 71; omega⟩ (by show 100 - (i + 1) < 100 - i; omega))
      · rw [h1]
        conv => whnf
        (have h9 : acc s (i + 1) (stopI n) = acc s i (stopI n) := (by clear hR hstep hbd hout ew hd1; simp_all); rw [ew]; exact hR (i + 1, o, s + ((i + 1 : Nat) : Int)) _ _ _ rfl (by rw [← hstep, ← h8]; rfl) ⟨by show o = _; rw [h9]; exact ho, rfl, by show i + 1 ≤ 71; omega⟩ (by show 100 - (i + 1) < 100 - i; omega))
    · rw [h0]
      conv => whnf
      rw [hD2]
      conv => whnf
      refine Bif.of (fun h2 => ?_) fun h2 => ?_
      · rw [h2]
        conv => whnf
        refine Bif.of (fun h3 => ?_) fun h3 => ?_
        · rw [h3]
          conv => whnf
          (have h9 : acc s (i + 1) (stopI n) = acc s i (stopI n) + 1 := (by clear hR hstep hbd hout ew hd1; simp_all); rw [ew]; exact hR (i + 1, IntKind.i64.wrap (o + 1), s + ((i + 1 : Nat) : Int)) _ _ _ rfl (by rw [← hstep, ← h8]; rfl) ⟨by show IntKind.i64.wrap (o + 1) = _; rw [h9, wrap64 (by omega) (by omega)]; omega, rfl, by show i + 1 ≤ 71; omega⟩ (by show 100 - (i + 1) < 100 - i; omega))
        · rw [h3]
          conv => whnf
          (have h9 : acc s (i + 1) (stopI n) = acc s i (stopI n) := (by clear hR hstep hbd hout ew hd1; simp_all); rw [ew]; exact hR (i + 1, o, s + ((i + 1 : Nat) : Int)) _ _ _ rfl (by rw [← hstep, ← h8]; rfl) ⟨by show o = _; rw [h9]; exact ho, rfl, by show i + 1 ≤ 71; omega⟩ (by show 100 - (i + 1) < 100 - i; omega))
      · rw [h2]
        conv => whnf
        (have h9 : acc s (i + 1) (stopI n) = acc s i (stopI n) := (by clear hR hstep hbd hout ew hd1; simp_all); rw [ew]; exact hR (i + 1, o, s + ((i + 1 : Nat) : Int)) _ _ _ rfl (by rw [← hstep, ← h8]; rfl) ⟨by show o = _; rw [h9]; exact ho, rfl, by show i + 1 ≤ 71; omega⟩ (by show 100 - (i + 1) < 100 - i; omega))
  · have hc : ¬ cntI s i < 16 := fun h => by
      have := (MSat_c (s := s) (i := i) (stopI n) 8 8 8 8).2 h
      simp at h0
      omega
    have hend := acc_end hc hb.2
    conv => whnf
    (rw [← hend, ← ho]; exact ⟨rfl, rfl⟩)

theorem shift_2 (s n : Int) (h : 76 ≤ s ∧ s < 228) : ACalls Try.prog 9 [.int .i64 s, .int .u8 n] [] fun r H => r = .int .i64 (shiftP s (stopI n)) ∧ H = [] := by
  have e : shiftP s (stopI n) = 0 + outs s (stopI n).toNat := by unfold shiftP; rw [if_neg (by omega)]; first | rw [if_pos (by omega)] | rw [if_neg (by omega)]
  have hb := stop_bd n
  have h8 : stopI 0 = 8 := by rw [stopI_eq]; rfl
  rw [e]
  refine ACalls.code tabOk h9 Try.func9 Try.call9 ok9 ?_
  conv => whnf
  refine Bif.knF ?_ fun h0 => ?_
  · (simp_all; omega)
  rw [h0]
  conv => whnf
  refine Bif.knF ?_ fun h1 => ?_
  · (simp_all; done)
  rw [h1]
  conv => whnf
  refine Bif.knT ?_ fun h2 => ?_
  · (simp_all; omega)
  rw [h2]
  conv => whnf
  refine Bif.knF ?_ fun h3 => ?_
  · (simp_all; done)
  rw [h3]
  conv => whnf
  refine ACalls.useE (motion_new) [] rfl (by (conv => whnf); try rfl) (by (conv => whnf); try rfl) ?_
  conv => whnf
  refine ACalls.useE (motion_strobe _ _ _) [0] rfl (by (conv => whnf); try rfl) (by (conv => whnf); try rfl) ?_
  conv => whnf
  refine ALoop.fd (σ := Nat × Int × Int) (fun q => [.int .i64 s, .int .u8 n, .chan none, .chan none, .int .i64 0, .bool false, .int .i64 q.2.1, .pointer (some ⟨0, 0, none⟩), .int .i64 q.2.2, .chan none, .chan none, .chan none, .chan none, .chan none, .chan none, .chan none, .chan none, .chan none, .chan none, .chan none, .chan none, .chan none, .chan none, .chan none, .chan none, .chan none, .chan none, .chan none, .chan none, .chan none, .chan none, .chan none, .chan none, .chan none, .chan none, .chan none, .chan none, .chan none, .chan none, .chan none, .chan none, .chan none, .chan none, .chan none, .chan none, .chan none, .chan none, .chan none, .chan none, .chan none, .chan none, .chan none, .chan none, .chan none, .chan none, .chan none, .chan none, .chan none, .chan none, .chan none]) (fun q => [(MSat s q.1 (stopI n) 8 8 8 8).blk]) (fun q => q.2.1 = 0 + acc s q.1 (stopI n) ∧ q.2.2 = s + q.1 ∧ q.1 ≤ 71) (fun q => 100 - q.1) (0, 0, s) [] rfl ?hh ?hi (fun _ => ⟨rfl, rfl, rfl, rfl⟩) ?round
  case hh => rw [MSat_0 hb.1 (by decide) (by decide) (by decide) (by decide)]; rfl
  case hi => exact ⟨by rw [acc_0 hb.1]; first | rfl | (show 0 = _; rw [wrap64 (n := 76 - s) (by omega) (by omega), wrap64 (by split <;> omega) (by split <;> omega)]; omega), by simp, Nat.zero_le _⟩
  rintro ⟨i, o, clk⟩ ⟨ho, hclk, hi⟩ R hR
  dsimp only at ho hclk hi
  subst hclk
  have hs : 0 ≤ s ∧ s < 228 := by omega
  have hk : (s + (i : Int)).tmod 228 % 4 = (s + i) % 4 := by rw [Int.tmod_eq_emod_of_nonneg (by omega)]; omega
  have hkt : (s + (i : Int)).tmod 228 = (s + i) % 228 := Int.tmod_eq_emod_of_nonneg (by omega)
  have hbd := MSat_bd s hs.1 i (stopI n) 8 8 8 8
  have ew : IntKind.i64.wrap (s + (i : Int) + 1) = s + ((i + 1 : Nat) : Int) := by rw [wrap64 (by omega) (by omega)]; omega
  conv => whnf
  refine ACalls.useE (motion_busy _ _ _) [0] rfl (by (conv => whnf); try rfl) (by (conv => whnf); try rfl) ?_
  conv => whnf
  refine Bif.of (fun h0 => ?_) fun h0 => ?_
  · have hc : cntI s i < 16 := (MSat_c ..).1 (by simpa using h0)
    have hi' := cnt_i hs.1 hc
    have hstep := MSat_step hs.1 hc hk (stopI n) 8 8 8 8
    have hm0 : (MSat s i (stopI n) 8 8 8 8).m0 = decide (cntI s i ≤ stopI n) := by unfold MSat; rw [if_pos hc]
    have hout := MSat_out hc hk (stopI n) 8 8 8 8 (stopI n)
    have hacc := acc_step hs.1 i hb.1
    have hob := outs_bd s (if cntI s i < stopI n then cntI s i else stopI n).toNat
    have hob2 : 0 ≤ acc s i (stopI n) ∧ acc s i (stopI n) ≤ 16 := by unfold acc; refine ⟨hob.1, Int.le_trans hob.2 ?_⟩; split <;> omega
    have hdk : dk s (s + (i : Int)) = (decide ((s + (i : Int)) % 228 < 68) || (false && decide (s + (i : Int) < 76))) := by
      have hlate : (decide (s > 0) && decide (s < 76)) = false := by simp; omega
      unfold dk; rw [hlate]
    rw [← hm0] at hout
    rw [hdk] at hacc
    have hd1 : decide ((s + (i : Int)).tmod 228 < 68) = decide ((s + (i : Int)) % 228 < 68) := by rw [hkt]
    generalize (decide (3 ≤ i) && decide ((s + (i : Int)) % 4 = 0) && decide (cntI s i < stopI n)) = M at hacc hout
    generalize hD1 : decide ((s + (i : Int)) % 228 < 68) = D1 at hacc hd1
    generalize hD2 : decide (s + (i : Int) < 76) = D2 at hacc
    clear hD1 hdk hm0 hob hkt hk
    conv => whnf
    refine ACalls.useE (motion_step _ _ _ _ _ _ _ _ _ _ _ _ _ ?_ ?_) [0] rfl (by (conv => whnf); try rfl) (by (conv => whnf); try rfl) ?_
    · exact hbd.1
    · exact hbd.2
    conv => whnf
    rw [hout]
    conv => whnf
    rw [hd1]
    conv => whnf
    refine Bif.of (fun h0 => ?_) fun h0 => ?_
    · rw [h0]
      conv => whnf
      refine Bif.of (fun h1 => ?_) fun h1 => ?_
      · rw [h1]
        conv => whnf
        (have h9 : acc s (i + 1) (stopI n) = acc s i (stopI n) + 1 := (by clear hR hstep hbd hout ew hd1; simp_all); rw [ew]; exact hR (i + 1, IntKind.i64.wrap (o + 1), s + ((i + 1 : Nat) : Int)) _ _ _ rfl (by rw [← hstep, ← h8]; rfl) ⟨by show IntKind.i64.wrap (o + 1) = _; rw [h9, wrap64 (by omega) (by omega)]; omega, rfl, by show i + 1 ≤ 71; omega⟩ (by show 100 - (i + 1) < 100 - i; omega))
      · rw [h1]
        conv => whnf
        (have h9 : acc s (i + 1) (stopI n) = acc s i (stopI n) := (by clear hR hstep hbd hout ew hd1; simp_all); rw [ew]; exact hR (i + 1, o, s + ((i + 1 : Nat) : Int)) _ _ _ rfl (by rw [← hstep, ← h8]; rfl) ⟨by show o = _; rw [h9]; exact ho, rfl, by show i + 1 ≤ 71; omega⟩ (by show 100 - (i + 1) < 100 - i; omega))
    · rw [h0]
      conv => whnf
      refine Bif.of (fun h2 => ?_) fun h2 => ?_
      · rw [h2]
        conv => whnf
        (have h9 : acc s (i + 1) (stopI n) = acc s i (stopI n) := (by clear hR hstep hbd hout ew hd1; simp_all); rw [ew]; exact hR (i + 1, o, s + ((i + 1 : Nat) : Int)) _ _ _ rfl (by rw [← hstep, ← h8]; rfl) ⟨by show o = _; rw [h9]; exact ho, rfl, by show i + 1 ≤ 71; omega⟩ (by show 100 - (i + 1) < 100 - i; omega))
      · rw [h2]
        conv => whnf
        (have h9 : acc s (i + 1) (stopI n) = acc s i (stopI n) := (by clear hR hstep hbd hout ew hd1; simp_all); rw [ew]; exact hR (i + 1, o, s + ((i + 1 : Nat) : Int)) _ _ _ rfl (by rw [← hstep, ← h8]; rfl) ⟨by show o = _; rw [h9]; exact ho, rfl, by show i + 1 ≤ 71; omega⟩ (by show 100 - (i + 1) < 100 - i; omega))
  · have hc : ¬ cntI s i < 16 := fun h => by
      have := (MSat_c (s := s) (i := i) (stopI n) 8 8 8 8).2 h
      simp at h0
      omega
    have hend := acc_end hc hb.2
    conv => whnf
    (rw [← hend, ← ho]; exact ⟨rfl, rfl⟩)

end Go.Proofs
