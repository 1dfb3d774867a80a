/-
  Walks through the functions of the program, by contract.
-/
import Derived.Test.YtimihamgemboeaaMshiftF
set_option linter.all false
set_option linter.unusedVariables false
set_option linter.unusedSimpArgs false
set_option linter.unnecessarySimpa false
namespace Go.Proofs
open Go.Aw
set_option maxRecDepth 100000
set_option maxHeartbeats 4000000

theorem motion_shift (s n : Int) : ACalls Try.prog 9 [.int .i64 s, .int .u8 n] [] fun r H => r = .int .i64 (shiftP s (stopI n)) ∧ H = [] := by
  by_cases h : s < 0 ∨ 228 ≤ s
  · exact shift_none s n h
  · by_cases h1 : s = 0
    · exact shift_0 s n h1
    · by_cases h2 : s < 76
      · exact shift_1 s n (by omega)
      · exact shift_2 s n (by omega)

theorem awake17 : ACalls Try.prog 11 [] [] fun v H => v = .bool true ∧ H = [] := by
  have a1 : shiftP 9 (stopI 7) = 7 := by rw [stopI_eq]; decide
  have a2 : shiftP 9 (stopI 8) = -8 := by rw [stopI_eq]; decide
  have a3 : shiftP 225 (stopI 0) = 8 := by rw [stopI_eq]; decide
  have a4 : shiftP 0 (stopI 7) = 15 := by rw [stopI_eq]; decide
  have a5 : shiftP 100 (stopI 7) = 0 := by rw [stopI_eq]; decide
  refine ACalls.code tabOk h11 Try.func11 Try.call11 ok11 ?_
  conv => whnf
  refine ACalls.useE (motion_new) [] rfl (by (conv => whnf); try rfl) (by (conv => whnf); try rfl) ?_
  conv => whnf
  refine ACalls.useE (motion_strobe _ _ _) [0] rfl (by (conv => whnf); try rfl) (by (conv => whnf); try rfl) ?_
  conv => whnf
  refine ACalls.useE (motion_busy _ _ _) [0] rfl (by (conv => whnf); try rfl) (by (conv => whnf); try rfl) ?_
  conv => whnf
  refine ACalls.useE (motion_shift _ _) [] rfl (by (conv => whnf); try rfl) (by (conv => whnf); try rfl) ?_
  conv => whnf
  rw [a1]
  conv => whnf
  refine ACalls.useE (motion_shift _ _) [] rfl (by (conv => whnf); try rfl) (by (conv => whnf); try rfl) ?_
  conv => whnf
  rw [a2]
  conv => whnf
  refine ACalls.useE (motion_shift _ _) [] rfl (by (conv => whnf); try rfl) (by (conv => whnf); try rfl) ?_
  conv => whnf
  rw [a3]
  conv => whnf
  refine ACalls.useE (motion_shift _ _) [] rfl (by (conv => whnf); try rfl) (by (conv => whnf); try rfl) ?_
  conv => whnf
  rw [a4]
  conv => whnf
  refine ACalls.useE (motion_shift _ _) [] rfl (by (conv => whnf); try rfl) (by (conv => whnf); try rfl) ?_
  conv => whnf
  rw [a5]
  conv => whnf
  exact ⟨rfl, rfl⟩

theorem ref_stop (n : Int) (h : 0 ≤ n ∧ n ≤ 255) : ACalls Try.prog 25 [.int .i64 n] [] fun r H => r = .int .i64 (stopI n) ∧ H = [] := by
  have e : ((IntKind.i64.wrap (n.tmod 16 + 8))).tmod 16 = stopI n := by
    rw [stopI_eq, Int.tmod_eq_emod_of_nonneg h.1, wrap64 (by omega) (by omega), Int.tmod_eq_emod_of_nonneg (by omega)]
  refine ACalls.code tabOk h25 Try.func25 Try.call25 ok25 ?_
  conv => whnf
  (rw [e]; exact ⟨rfl, rfl⟩)

theorem rshift_none (s n : Int) (h : s < 0 ∨ 228 ≤ s) : ACalls Try.prog 10 [.int .i64 s, .int .i64 n] [] fun r H => r = .int .i64 (shiftP s (stopI n)) ∧ H = [] := by
  have e : shiftP s (stopI n) = 0 := by unfold shiftP; rw [if_pos h]
  rw [e]
  rcases h with h | h
  · refine ACalls.code tabOk h10 Try.func10 Try.call10 ok10 ?_
    conv => whnf
    refine Bif.knT ?_ fun h0 => ?_
    · (simp_all; done)
    rw [h0]
    conv => whnf
    exact ⟨rfl, rfl⟩
  · refine ACalls.code tabOk h10 Try.func10 Try.call10 ok10 ?_
    conv => whnf
    refine Bif.knF ?_ fun h0 => ?_
    · (simp_all; omega)
    rw [h0]
    conv => whnf
    refine Bif.knT ?_ fun h1 => ?_
    · (simp_all; omega)
    rw [h1]
    conv => whnf
    exact ⟨rfl, rfl⟩


theorem rshift_0 (s n : Int) (hn : 0 ≤ n ∧ n ≤ 255) (h : s = 0) : ACalls Try.prog 10 [.int .i64 s, .int .i64 n] [] fun r H => r = .int .i64 (shiftP s (stopI n)) ∧ H = [] := by
  have e : shiftP s (stopI n) = 0 + outs s (stopI n).toNat := by unfold shiftP; rw [if_neg (by omega)]; first | rw [if_pos (by omega)] | rw [if_neg (by omega)]
  have hb := stop_bd n
  have hs : 0 ≤ s ∧ s < 228 := by omega
  have ew : IntKind.i64.wrap (s + 3) = s + 3 := wrap64 (by omega) (by omega)
  have e76 : IntKind.i64.wrap (76 - s) = 76 - s := wrap64 (by omega) (by omega)
  have e75 : 0 < s → decide (s ≤ 75) = false := fun _ => by simp; omega
  have hlate : (decide (s > 0) && decide (s < 76)) = false := by simp; omega
  rw [e]
  refine ACalls.code tabOk h10 Try.func10 Try.call10 ok10 ?_
  conv => whnf
  refine Bif.knF ?_ fun h0 => ?_
  · (simp_all; done)
  rw [h0]
  conv => whnf
  refine Bif.knF ?_ fun h1 => ?_
  · (simp_all; done)
  rw [h1]
  conv => whnf
  refine Bif.knF ?_ fun h2 => ?_
  · (simp_all; done)
  rw [h2]
  conv => whnf
  refine ALoop.fd (σ := Int) (fun f => [.int .i64 s, .int .i64 n, .chan none, .chan none, .int .i64 0, .bool false, .int .i64 f, .chan none, .chan none, .chan none, .chan none, .chan none, .chan none, .chan none, .chan none, .chan none, .chan none, .chan none, .chan none, .chan none, .chan none, .chan none, .chan none, .chan none, .chan none, .chan none, .chan none, .chan none, .chan none, .chan none, .chan none, .chan none, .chan none, .chan none, .chan none, .chan none, .chan none, .chan none, .chan none, .chan none, .chan none, .chan none, .chan none, .chan none, .chan none, .chan none, .chan none, .chan none, .chan none, .chan none, .chan none, .chan none, .chan none, .chan none, .chan none, .chan none, .chan none, .chan none, .chan none, .chan none, .chan none]) (fun _ => []) (fun f => s + 3 ≤ f ∧ f ≤ (s + 6) / 4 * 4) (fun f => ((s + 6) / 4 * 4 - f).toNat) (s + 3) [] (by rw [ew]; first | (rw [e75 (by omega)]; rfl) | rfl) rfl (by omega) (fun _ => ⟨rfl, rfl, rfl, rfl⟩) ?_
  intro f hf R hR
  have ef : IntKind.i64.wrap (f + 1) = f + 1 := wrap64 (by omega) (by omega)
  have hfm : f.tmod 4 = f % 4 := Int.tmod_eq_emod_of_nonneg (by omega)
  conv => whnf
  rw [hfm]
  refine Bif.of (fun h0 => ?_) fun h0 => ?_
  · have hz : f % 4 ≠ 0 := by simpa using h0
    conv => whnf
    (rw [ef]; exact hR (f + 1) _ _ _ rfl rfl (by omega) (by omega))
  · have hz : f % 4 = 0 := by simpa using h0
    obtain rfl : f = (s + 6) / 4 * 4 := by omega
    clear hR hf ef hfm h0
    conv => whnf
  
    refine ALoop.fd (σ := Nat × Int) (fun q => [.int .i64 s, .int .i64 n, .chan none, .chan none, .int .i64 0, .bool false, .int .i64 ((s + 6) / 4 * 4), .int .i64 q.2, .int .i64 q.1, .chan none, .chan none, .chan none, .chan none, .chan none, .chan none, .chan none, .chan none, .chan none, .chan none, .chan none, .chan none, .chan none, .chan none, .chan none, .chan none, .chan none, .chan none, .chan none, .chan none, .chan none, .chan none, .chan none, .chan none, .chan none, .chan none, .chan none, .chan none, .chan none, .chan none, .chan none, .chan none, .chan none, .chan none, .chan none, .chan none, .chan none, .chan none, .chan none, .chan none, .chan none, .chan none, .chan none, .chan none, .chan none, .chan none, .chan none, .chan none, .chan none, .chan none, .chan none, .chan none]) (fun _ => []) (fun q => q.2 = outs s q.1 ∧ q.1 ≤ (stopI n).toNat) (fun q => (stopI n).toNat - q.1) (0, 0) [] rfl rfl ⟨rfl, Nat.zero_le _⟩ (fun _ => ⟨rfl, rfl, rfl, rfl⟩) ?_
    rintro ⟨i, o⟩ ⟨ho, hi⟩ R hR
    dsimp only at ho hi
    have ei : IntKind.i64.wrap ((i : Int) + 1) = ((i + 1 : Nat) : Int) := by rw [wrap64 (by omega) (by omega)]; rfl
    have hob := outs_bd s i
    have e4 : IntKind.i64.wrap (4 * (i : Int)) = 4 * i := wrap64 (by omega) (by omega)
    have eu : IntKind.i64.wrap ((s + 6) / 4 * 4 + 4 * (i : Int)) = (s + 6) / 4 * 4 + 4 * i := wrap64 (by omega) (by omega)
    have hu : ((s + 6) / 4 * 4 + 4 * (i : Int)).tmod 228 = ((s + 6) / 4 * 4 + 4 * i) % 228 := Int.tmod_eq_emod_of_nonneg (by omega)
    have hdk : dk s ((s + 6) / 4 * 4 + 4 * (i : Int)) = (decide (((s + 6) / 4 * 4 + 4 * (i : Int)).tmod 228 < 68) || (false && decide ((s + 6) / 4 * 4 + 4 * (i : Int) < 76))) := by
      unfold dk; rw [hlate, hu]
    have hacc : outs s (i + 1) = outs s i + (if dk s ((s + 6) / 4 * 4 + 4 * (i : Int)) then 1 else 0) := rfl
    rw [hdk] at hacc
    conv => whnf
    refine ACalls.useE (ref_stop _ ?_) [] rfl (by (conv => whnf); try rfl) (by (conv => whnf); try rfl) ?_
    · exact hn
    conv => whnf
    refine Bif.of (fun h0 => ?_) fun h0 => ?_
    · have hlt : (i : Int) < stopI n := by simpa using h0
      generalize hD1 : decide (((s + 6) / 4 * 4 + 4 * (i : Int)).tmod 228 < 68) = D1 at hacc
      generalize hD2 : decide ((s + 6) / 4 * 4 + 4 * (i : Int) < 76) = D2 at hacc
      clear hdk
      conv => whnf
      rw [e4]
      conv => whnf
      rw [eu]
      conv => whnf
      rw [hD1]
      conv => whnf
      refine Bif.of (fun h0 => ?_) fun h0 => ?_
      · rw [h0]
        conv => whnf
        (have h9 : outs s (i + 1) = outs s i + 1 := (by clear hR hD1 hD2 hu eu e4 ei; simp_all); rw [ei]; exact hR (i + 1, IntKind.i64.wrap (o + 1)) _ _ _ rfl rfl ⟨by show IntKind.i64.wrap (o + 1) = _; rw [h9, wrap64 (by omega) (by omega)]; omega, by show i + 1 ≤ _; omega⟩ (by show (stopI n).toNat - (i + 1) < (stopI n).toNat - i; omega))
      · rw [h0]
        conv => whnf
        (have h9 : outs s (i + 1) = outs s i := (by clear hR hD1 hD2 hu eu e4 ei; simp_all); rw [ei]; exact hR (i + 1, o) _ _ _ rfl rfl ⟨by show o = _; rw [h9]; exact ho, by show i + 1 ≤ _; omega⟩ (by show (stopI n).toNat - (i + 1) < (stopI n).toNat - i; omega))
    · have hlt : ¬ (i : Int) < stopI n := by simpa using h0
      have hii : (stopI n).toNat = i := by omega
      conv => whnf
      clear hR hacc
      (simp at h0; rw [hii]; exact ⟨by first | (show Value.int .i64 o = _; rw [ho, Int.zero_add]) | (show Value.int .i64 (IntKind.i64.wrap (o - 8)) = _; rw [ho, wrap64 (by omega) (by omega), if_pos (by omega)]; congr 1; omega) | (show Value.int .i64 (IntKind.i64.wrap (o - (76 - s))) = _; rw [ho, wrap64 (by omega) (by omega), if_neg (by omega)]; congr 1; omega), rfl⟩)

theorem rshift_1 (s n : Int) (hn : 0 ≤ n ∧ n ≤ 255) (h : 0 < s ∧ s < 76) : ACalls Try.prog 10 [.int .i64 s, .int .i64 n] [] fun r H => r = .int .i64 (shiftP s (stopI n)) ∧ H = [] := by
  have e : shiftP s (stopI n) = (- (if 8 < 76 - s then 8 else 76 - s)) + outs s (stopI n).toNat := by unfold shiftP; rw [if_neg (by omega)]; first | rw [if_pos (by omega)] | rw [if_neg (by omega)]
  have hb := stop_bd n
  have hs : 0 ≤ s ∧ s < 228 := by omega
  have ew : IntKind.i64.wrap (s + 3) = s + 3 := wrap64 (by omega) (by omega)
  have e76 : IntKind.i64.wrap (76 - s) = 76 - s := wrap64 (by omega) (by omega)
  have e75 : 0 < s → decide (s ≤ 75) = true := fun _ => by simp; omega
  have hlate : (decide (s > 0) && decide (s < 76)) = true := by simp; omega
  rw [e]
  refine ACalls.code tabOk h10 Try.func10 Try.call10 ok10 ?_
  conv => whnf
  refine Bif.knF ?_ fun h0 => ?_
  · (simp_all; done)
  rw [h0]
  conv => whnf
  refine Bif.knF ?_ fun h1 => ?_
  · (simp_all; omega)
  rw [h1]
  conv => whnf
  refine Bif.knT ?_ fun h2 => ?_
  · (simp_all; omega)
  rw [h2]
  conv => whnf
  refine ALoop.fd (σ := Int) (fun f => [.int .i64 s, .int .i64 n, .chan none, .chan none, .int .i64 0, .bool true, .int .i64 f, .chan none, .chan none, .chan none, .chan none, .chan none, .chan none, .chan none, .chan none, .chan none, .chan none, .chan none, .chan none, .chan none, .chan none, .chan none, .chan none, .chan none, .chan none, .chan none, .chan none, .chan none, .chan none, .chan none, .chan none, .chan none, .chan none, .chan none, .chan none, .chan none, .chan none, .chan none, .chan none, .chan none, .chan none, .chan none, .chan none, .chan none, .chan none, .chan none, .chan none, .chan none, .chan none, .chan none, .chan none, .chan none, .chan none, .chan none, .chan none, .chan none, .chan none, .chan none, .chan none, .chan none, .chan none]) (fun _ => []) (fun f => s + 3 ≤ f ∧ f ≤ (s + 6) / 4 * 4) (fun f => ((s + 6) / 4 * 4 - f).toNat) (s + 3) [] (by rw [ew]; first | (rw [e75 (by omega)]; rfl) | rfl) rfl (by omega) (fun _ => ⟨rfl, rfl, rfl, rfl⟩) ?_
  intro f hf R hR
  have ef : IntKind.i64.wrap (f + 1) = f + 1 := wrap64 (by omega) (by omega)
  have hfm : f.tmod 4 = f % 4 := Int.tmod_eq_emod_of_nonneg (by omega)
  conv => whnf
  rw [hfm]
  refine Bif.of (fun h0 => ?_) fun h0 => ?_
  · have hz : f % 4 ≠ 0 := by simpa using h0
    conv => whnf
    (rw [ef]; exact hR (f + 1) _ _ _ rfl rfl (by omega) (by omega))
  · have hz : f % 4 = 0 := by simpa using h0
    obtain rfl : f = (s + 6) / 4 * 4 := by omega
    clear hR hf ef hfm h0
    conv => whnf
  
    refine ALoop.fd (σ := Nat × Int) (fun q => [.int .i64 s, .int .i64 n, .chan none, .chan none, .int .i64 0, .bool true, .int .i64 ((s + 6) / 4 * 4), .int .i64 q.2, .int .i64 q.1, .chan none, .chan none, .chan none, .chan none, .chan none, .chan none, .chan none, .chan none, .chan none, .chan none, .chan none, .chan none, .chan none, .chan none, .chan none, .chan none, .chan none, .chan none, .chan none, .chan none, .chan none, .chan none, .chan none, .chan none, .chan none, .chan none, .chan none, .chan none, .chan none, .chan none, .chan none, .chan none, .chan none, .chan none, .chan none, .chan none, .chan none, .chan none, .chan none, .chan none, .chan none, .chan none, .chan none, .chan none, .chan none, .chan none, .chan none, .chan none, .chan none, .chan none, .chan none, .chan none]) (fun _ => []) (fun q => q.2 = outs s q.1 ∧ q.1 ≤ (stopI n).toNat) (fun q => (stopI n).toNat - q.1) (0, 0) [] rfl rfl ⟨rfl, Nat.zero_le _⟩ (fun _ => ⟨rfl, rfl, rfl, rfl⟩) ?_
    rintro ⟨i, o⟩ ⟨ho, hi⟩ R hR
    dsimp only at ho hi
    have ei : IntKind.i64.wrap ((i : Int) + 1) = ((i + 1 : Nat) : Int) := by rw [wrap64 (by omega) (by omega)]; rfl
    have hob := outs_bd s i
    have e4 : IntKind.i64.wrap (4 * (i : Int)) = 4 * i := wrap64 (by omega) (by omega)
    have eu : IntKind.i64.wrap ((s + 6) / 4 * 4 + 4 * (i : Int)) = (s + 6) / 4 * 4 + 4 * i := wrap64 (by omega) (by omega)
    have hu : ((s + 6) / 4 * 4 + 4 * (i : Int)).tmod 228 = ((s + 6) / 4 * 4 + 4 * i) % 228 := Int.tmod_eq_emod_of_nonneg (by omega)
    have hdk : dk s ((s + 6) / 4 * 4 + 4 * (i : Int)) = (decide (((s + 6) / 4 * 4 + 4 * (i : Int)).tmod 228 < 68) || (true && decide ((s + 6) / 4 * 4 + 4 * (i : Int) < 76))) := by
      unfold dk; rw [hlate, hu]
    have hacc : outs s (i + 1) = outs s i + (if dk s ((s + 6) / 4 * 4 + 4 * (i : Int)) then 1 else 0) := rfl
    rw [hdk] at hacc
    conv => whnf
    refine ACalls.useE (ref_stop _ ?_) [] rfl (by (conv => whnf); try rfl) (by (conv => whnf); try rfl) ?_
    · exact hn
    conv => whnf
    refine Bif.of (fun h0 => ?_) fun h0 => ?_
    · have hlt : (i : Int) < stopI n := by simpa using h0
      generalize hD1 : decide (((s + 6) / 4 * 4 + 4 * (i : Int)).tmod 228 < 68) = D1 at hacc
      generalize hD2 : decide ((s + 6) / 4 * 4 + 4 * (i : Int) < 76) = D2 at hacc
      clear hdk
      conv => whnf
      rw [e4]
      conv => whnf
      rw [eu]
      conv => whnf
      rw [hD1]
      conv => whnf
      refine Bif.of (fun h0 => ?_) fun h0 => ?_
      · rw [h0]
        conv => whnf
        (have h9 : outs s (i + 1) = outs s i + 1 := (by clear hR hD1 hD2 hu eu e4 ei; simp_all); rw [ei]; exact hR (i + 1, IntKind.i64.wrap (o + 1)) _ _ _ rfl rfl ⟨by show IntKind.i64.wrap (o + 1) = _; rw [h9, wrap64 (by omega) (by omega)]; omega, by show i + 1 ≤ _; omega⟩ (by show (stopI n).toNat - (i + 1) < (stopI n).toNat - i; omega))
      · rw [h0]
        conv => whnf
        rw [hD2]
        conv => whnf
        refine Bif.of (fun h1 => ?_) fun h1 => ?_
        · rw [h1]
          conv => whnf
          (have h9 : outs s (i + 1) = outs s i + 1 := (by clear hR hD1 hD2 hu eu e4 ei; simp_all); rw [ei]; exact hR (i + 1, IntKind.i64.wrap (o + 1)) _ _ _ rfl rfl ⟨by show IntKind.i64.wrap (o + 1) = _; rw [h9, wrap64 (by omega) (by omega)]; omega, by show i + 1 ≤ _; omega⟩ (by show (stopI n).toNat - (i + 1) < (stopI n).toNat - i; omega))
        · rw [h1]
          conv => whnf
          (have h9 : outs s (i + 1) = outs s i := (by clear hR hD1 hD2 hu eu e4 ei; simp_all); rw [ei]; exact hR (i + 1, o) _ _ _ rfl rfl ⟨by show o = _; rw [h9]; exact ho, by show i + 1 ≤ _; omega⟩ (by show (stopI n).toNat - (i + 1) < (stopI n).toNat - i; omega))
    · have hlt : ¬ (i : Int) < stopI n := by simpa using h0
      have hii : (stopI n).toNat = i := by omega
      conv => whnf
      clear hR hacc
      rw [e76]
      conv => whnf
      refine Bif.of (fun h0 => ?_) fun h0 => ?_
      · rw [h0]
        conv => whnf
        (simp at h0; rw [hii]; exact ⟨by first | (show Value.int .i64 o = _; rw [ho, Int.zero_add]) | (show Value.int .i64 (IntKind.i64.wrap (o - 8)) = _; rw [ho, wrap64 (by omega) (by omega), if_pos (by omega)]; congr 1; omega) | (show Value.int .i64 (IntKind.i64.wrap (o - (76 - s))) = _; rw [ho, wrap64 (by omega) (by omega), if_neg (by omega)]; congr 1; omega), rfl⟩)
      · rw [h0]
        conv => whnf
        (simp at h0; rw [hii]; exact ⟨by first | (show Value.int .i64 o = _; rw [ho, Int.zero_add]) | (show Value.int .i64 (IntKind.i64.wrap (o - 8)) = _; rw [ho, wrap64 (by omega) (by omega), if_pos (by omega)]; congr 1; omega) | (show Value.int .i64 (IntKind.i64.wrap (o - (76 - s))) = _; rw [ho, wrap64 (by omega) (by omega), if_neg (by omega)]; congr 1; omega), rfl⟩)

theorem rshift_2 (s n : Int) (hn : 0 ≤ n ∧ n ≤ 255) (h : 76 ≤ s ∧ s < 228) : ACalls Try.prog 10 [.int .i64 s, .int .i64 n] [] fun r H => r = .int .i64 (shiftP s (stopI n)) ∧ H = [] := by
  have e : shiftP s (stopI n) = 0 + outs s (stopI n).toNat := by unfold shiftP; rw [if_neg (by omega)]; first | rw [if_pos (by omega)] | rw [if_neg (by omega)]
  have hb := stop_bd n
  have hs : 0 ≤ s ∧ s < 228 := by omega
  have ew : IntKind.i64.wrap (s + 3) = s + 3 := wrap64 (by omega) (by omega)
  have e76 : IntKind.i64.wrap (76 - s) = 76 - s := wrap64 (by omega) (by omega)
  have e75 : 0 < s → decide (s ≤ 75) = false := fun _ => by simp; omega
  have hlate : (decide (s > 0) && decide (s < 76)) = false := by simp; omega
  rw [e]
  refine ACalls.code tabOk h10 Try.func10 Try.call10 ok10 ?_
  conv => whnf
  refine Bif.knF ?_ fun h0 => ?_
  · (simp_all; done)
  rw [h0]
  conv => whnf
  refine Bif.knF ?_ fun h1 => ?_
  · (simp_all; omega)
  rw [h1]
  conv => whnf
  refine Bif.knT ?_ fun h2 => ?_
  · (simp_all; omega)
  rw [h2]
  conv => whnf
  refine ALoop.fd (σ := Int) (fun f => [.int .i64 s, .int .i64 n, .chan none, .chan none, .int .i64 0, .bool false, .int .i64 f, .chan none, .chan none, .chan none, .chan none, .chan none, .chan none, .chan none, .chan none, .chan none, .chan none, .chan none, .chan none, .chan none, .chan none, .chan none, .chan none, .chan none, .chan none, .chan none, .chan none, .chan none, .chan none, .chan none, .chan none, .chan none, .chan none, .chan none, .chan none, .chan none, .chan none, .chan none, .chan none, .chan none, .chan none, .chan none, .chan none, .chan none, .chan none, .chan none, .chan none, .chan none, .chan none, .chan none, .chan none, .chan none, .chan none, .chan none, .chan none, .chan none, .chan none, .chan none, .chan none, .chan none, .chan none]) (fun _ => []) (fun f => s + 3 ≤ f ∧ f ≤ (s + 6) / 4 * 4) (fun f => ((s + 6) / 4 * 4 - f).toNat) (s + 3) [] (by rw [ew]; first | (rw [e75 (by omega)]; rfl) | rfl) rfl (by omega) (fun _ => ⟨rfl, rfl, rfl, rfl⟩) ?_
  intro f hf R hR
  have ef : IntKind.i64.wrap (f + 1) = f + 1 := wrap64 (by omega) (by omega)
  have hfm : f.tmod 4 = f % 4 := Int.tmod_eq_emod_of_nonneg (by omega)
  conv => whnf
  rw [hfm]
  refine Bif.of (fun h0 => ?_) fun h0 => ?_
  · have hz : f % 4 ≠ 0 := by simpa using h0
    conv => whnf
    (rw [ef]; exact hR (f + 1) _ _ _ rfl rfl (by omega) (by omega))
  · have hz : f % 4 = 0 := by simpa using h0
    obtain rfl : f = (s + 6) / 4 * 4 := by omega
    clear hR hf ef hfm h0
    conv => whnf
  
    refine ALoop.fd (σ := Nat × Int) (fun q => [.int .i64 s, .int .i64 n, .chan none, .chan none, .int .i64 0, .bool false, .int .i64 ((s + 6) / 4 * 4), .int .i64 q.2, .int .i64 q.1, .chan none, .chan none, .chan none, .chan none, .chan none, .chan none, .chan none, .chan none, .chan none, .chan none, .chan none, .chan none, .chan none, .chan none, .chan none, .chan none, .chan none, .chan none, .chan none, .chan none, .chan none, .chan none, .chan none, .chan none, .chan none, .chan none, .chan none, .chan none, .chan none, .chan none, .chan none, .chan none, .chan none, .chan none, .chan none, .chan none, .chan none, .chan none, .chan none, .chan none, .chan none, .chan none, .chan none, .chan none, .chan none, .chan none, .chan none, .chan none, .chan none, .chan none, .chan none, .chan none]) (fun _ => []) (fun q => q.2 = outs s q.1 ∧ q.1 ≤ (stopI n).toNat) (fun q => (stopI n).toNat - q.1) (0, 0) [] rfl rfl ⟨rfl, Nat.zero_le _⟩ (fun _ => ⟨rfl, rfl, rfl, rfl⟩) ?_
    rintro ⟨i, o⟩ ⟨ho, hi⟩ R hR
    dsimp only at ho hi
    have ei : IntKind.i64.wrap ((i : Int) + 1) = ((i + 1 : Nat) : Int) := by rw [wrap64 (by omega) (by omega)]; rfl
    have hob := outs_bd s i
    have e4 : IntKind.i64.wrap (4 * (i : Int)) = 4 * i := wrap64 (by omega) (by omega)
    have eu : IntKind.i64.wrap ((s + 6) / 4 * 4 + 4 * (i : Int)) = (s + 6) / 4 * 4 + 4 * i := wrap64 (by omega) (by omega)
    have hu : ((s + 6) / 4 * 4 + 4 * (i : Int)).tmod 228 = ((s + 6) / 4 * 4 + 4 * i) % 228 := Int.tmod_eq_emod_of_nonneg (by omega)
    have hdk : dk s ((s + 6) / 4 * 4 + 4 * (i : Int)) = (decide (((s + 6) / 4 * 4 + 4 * (i : Int)).tmod 228 < 68) || (false && decide ((s + 6) / 4 * 4 + 4 * (i : Int) < 76))) := by
      unfold dk; rw [hlate, hu]
    have hacc : outs s (i + 1) = outs s i + (if dk s ((s + 6) / 4 * 4 + 4 * (i : Int)) then 1 else 0) := rfl
    rw [hdk] at hacc
    conv => whnf
    refine ACalls.useE (ref_stop _ ?_) [] rfl (by (conv => whnf); try rfl) (by (conv => whnf); try rfl) ?_
    · exact hn
    conv => whnf
    refine Bif.of (fun h0 => ?_) fun h0 => ?_
    · have hlt : (i : Int) < stopI n := by simpa using h0
      generalize hD1 : decide (((s + 6) / 4 * 4 + 4 * (i : Int)).tmod 228 < 68) = D1 at hacc
      generalize hD2 : decide ((s + 6) / 4 * 4 + 4 * (i : Int) < 76) = D2 at hacc
      clear hdk
      conv => whnf
      rw [e4]
      conv => whnf
      rw [eu]
      conv => whnf
      rw [hD1]
      conv => whnf
      refine Bif.of (fun h0 => ?_) fun h0 => ?_
      · rw [h0]
        conv => whnf
        (have h9 : outs s (i + 1) = outs s i + 1 := (by clear hR hD1 hD2 hu eu e4 ei; simp_all); rw [ei]; exact hR (i + 1, IntKind.i64.wrap (o + 1)) _ _ _ rfl rfl ⟨by show IntKind.i64.wrap (o + 1) = _; rw [h9, wrap64 (by omega) (by omega)]; omega, by show i + 1 ≤ _; omega⟩ (by show (stopI n).toNat - (i + 1) < (stopI n).toNat - i; omega))
      · rw [h0]
        conv => whnf
        (have h9 : outs s (i + 1) = outs s i := (by clear hR hD1 hD2 hu eu e4 ei; simp_all); rw [ei]; exact hR (i + 1, o) _ _ _ rfl rfl ⟨by show o = _; rw [h9]; exact ho, by show i + 1 ≤ _; omega⟩ (by show (stopI n).toNat - (i + 1) < (stopI n).toNat - i; omega))
    · have hlt : ¬ (i : Int) < stopI n := by simpa using h0
      have hii : (stopI n).toNat = i := by omega
      conv => whnf
      clear hR hacc
      (simp at h0; rw [hii]; exact ⟨by first | (show Value.int .i64 o = _; rw [ho, Int.zero_add]) | (show Value.int .i64 (IntKind.i64.wrap (o - 8)) = _; rw [ho, wrap64 (by omega) (by omega), if_pos (by omega)]; congr 1; omega) | (show Value.int .i64 (IntKind.i64.wrap (o - (76 - s))) = _; rw [ho, wrap64 (by omega) (by omega), if_neg (by omega)]; congr 1; omega), rfl⟩)


theorem ref_shift (s n : Int) (hn : 0 ≤ n ∧ n ≤ 255) : ACalls Try.prog 10 [.int .i64 s, .int .i64 n] [] fun r H => r = .int .i64 (shiftP s (stopI n)) ∧ H = [] := by
  by_cases h : s < 0 ∨ 228 ≤ s
  · exact rshift_none s n h
  · by_cases h1 : s = 0
    · exact rshift_0 s n hn h1
    · by_cases h2 : s < 76
      · exact rshift_1 s n hn (by omega)
      · exact rshift_2 s n hn (by omega)

theorem walk_MotionShifts (s n : Int) (ws : (Lit.int .i64 s).wf = true) (wn : (Lit.int .u8 n).wf = true) : ACalls Try.prog 3 [.int .i64 s, .int .u8 n] [] fun v _ => v = .bool true := by
  have hn := wf_u8 wn
  have en : IntKind.i64.wrap n = n := wrap64 (by omega) (by omega)
  refine ACalls.code tabOk h3 Try.func3 Try.call3 ok3 ?_
  conv => whnf
  refine ACalls.useE (motion_shift _ _) [] rfl (by (conv => whnf); try rfl) (by (conv => whnf); try rfl) ?_
  conv => whnf
  refine ACalls.useE (ref_shift _ _ ?_) [] rfl (by (conv => whnf); try rfl) (by (conv => whnf); try rfl) ?_
  · omega
  conv => whnf
  rw [en]
  conv => whnf
  refine Bif.knT ?_ fun h0 => ?_
  · exact beq_self_eq_true _
  rw [h0]
  conv => whnf
  refine ACalls.useE (awake17) [] rfl (by (conv => whnf); try rfl) (by (conv => whnf); try rfl) ?_
  conv => whnf
end Go.Proofs
