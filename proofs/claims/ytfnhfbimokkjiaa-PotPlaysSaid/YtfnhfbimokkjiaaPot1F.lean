/-
  Walks through the functions of the program, by contract.
-/
import Derived.Test.YtfnhfbimokkjiaaBaseE
import Derived.Test.YtfnhfbimokkjiaaCore19
set_option linter.all false
set_option linter.unusedVariables false
set_option linter.unusedSimpArgs false
set_option linter.unnecessarySimpa false
namespace Go.Proofs
open Go.Aw
set_option maxRecDepth 100000
set_option maxHeartbeats 2000000

theorem awake20 : ACalls Try.prog 12 [] [] fun v H => v = .bool true ∧ H = [] := by
  refine ACalls.code tabOk h12 Try.func12 Try.call12 ok12 ?_
  conv => whnf
  refine ACalls.codeN tabOk h7 Try.func7 Try.call7 ok7 [1] ?_
  conv => whnf
  refine ACalls.code tabOk h8 Try.func8 Try.call8 ok8 ?_
  conv => whnf
  refine ACalls.code tabOk h9 Try.func9 Try.call9 ok9 ?_
  conv => whnf
  refine ACalls.code tabOk h9 Try.func9 Try.call9 ok9 ?_
  conv => whnf
  refine ACalls.code tabOk h10 Try.func10 Try.call10 ok10 ?_
  conv => whnf
  refine ACalls.code tabOk h10 Try.func10 Try.call10 ok10 ?_
  conv => whnf
  refine ACalls.code tabOk h11 Try.func11 Try.call11 ok11 ?_
  conv => whnf
  refine ACalls.code tabOk h10 Try.func10 Try.call10 ok10 ?_
  conv => whnf
  refine ACalls.code tabOk h11 Try.func11 Try.call11 ok11 ?_
  conv => whnf
  refine ACalls.code tabOk h13 Try.func13 Try.call13 ok13 ?_
  conv => whnf
  refine ACalls.code tabOk h26 Try.func26 Try.call26 ok26 ?_
  conv => whnf
  refine ALoop.run 9 ?_
  conv => whnf
  refine ACalls.code tabOk h8 Try.func8 Try.call8 ok8 ?_
  conv => whnf
  refine ACalls.code tabOk h26 Try.func26 Try.call26 ok26 ?_
  conv => whnf
  refine ALoop.run 9 ?_
  conv => whnf
  refine ACalls.code tabOk h8 Try.func8 Try.call8 ok8 ?_
  conv => whnf
  refine ACalls.code tabOk h26 Try.func26 Try.call26 ok26 ?_
  conv => whnf
  refine ALoop.run 9 ?_
  conv => whnf
  refine ACalls.code tabOk h11 Try.func11 Try.call11 ok11 ?_
  conv => whnf
  refine ACalls.code tabOk h13 Try.func13 Try.call13 ok13 ?_
  conv => whnf
  refine ACalls.code tabOk h26 Try.func26 Try.call26 ok26 ?_
  conv => whnf
  refine ALoop.run 9 ?_
  conv => whnf
  refine ACalls.code tabOk h11 Try.func11 Try.call11 ok11 ?_
  conv => whnf
  exact ⟨rfl, rfl⟩


theorem charges_0 (a b c : Int) (ha : 0 ≤ a ∧ a ≤ 255) (hb : 0 ≤ b ∧ b ≤ 255) (hc : 0 ≤ c ∧ c ≤ 65535) (er : (IntKind.i64.wrap a).tmod 4 = 0) : 
   ACalls Try.prog 3 [.int .u8 a, .int .u8 b, .int .u16 c] [] fun v _ => v = .bool true := by
  have hN : (IntKind.i64.wrap c).tmod 300 = c % 300 := by rw [wrap64 (by omega) (by omega), Int.tmod_eq_emod_of_nonneg (by omega)]
  have hw : IntKind.i64.wrap b = b := wrap64 (by omega) (by omega)
  refine ACalls.code tabOk h3 Try.func3 Try.call3 ok3 ?_
  conv => whnf
  refine ACalls.codeN tabOk h7 Try.func7 Try.call7 ok7 [1] ?_
  conv => whnf
  refine ACalls.code tabOk h8 Try.func8 Try.call8 ok8 ?_
  conv => whnf
  rw [er]
  conv => whnf
  refine ACalls.code tabOk h9 Try.func9 Try.call9 ok9 ?_
  conv => whnf
  refine ALoop.go (fun i : Nat => [some (.int .u8 a), some (.int .u8 b), some (.int .u16 c), none, none, none, some (.bool false), some (.pointer (some ⟨0, 0, none⟩)), some (.int .i64 0), some (.int .i64 i), none, none, none, none, none, none, none, none, none, none, none, none, none, none, none, none, none, none, none, none, none, none, none, none, none, none, none, none, none, none, none, none, none, none, none, none, none, none, none, none, none, none, none]) (fun i => [.cells [.int .u8 b, .int .u8 0, .int .u8 0, .int .u8 0, .int .i64 0, .bool true, .bool true, .bool true, .bool true, .bool true, .bool false] 58]) (fun i => (i : Int) ≤ c % 300) (fun i => 300 - i) 0 rfl rfl (by omega) (fun _ => rfl) ?_
  intro i hi x R hR
  have e2 : IntKind.i64.wrap ((i : Int) + 1) = ((i + 1 : Nat) : Int) := by rw [wrap64 (by omega) (by omega)]; rfl
  conv => whnf
  refine Bif.of (fun h0 => ?_) fun h0 => ?_
  · conv => whnf
    refine ACalls.code tabOk h10 Try.func10 Try.call10 ok10 ?_
    conv => whnf
    refine ACalls.code tabOk h11 Try.func11 Try.call11 ok11 ?_
    conv => whnf
    (rw [e2]; exact hR (i + 1) _ _ rfl rfl (by rw [hN] at h0; simp at h0; omega) (by simp [hN] at h0; omega))
  · conv => whnf
    refine ACalls.code tabOk h9 Try.func9 Try.call9 ok9 ?_
    conv => whnf
    refine ALoop.go (fun i : Nat => [some (.int .u8 a), some (.int .u8 b), some (.int .u16 c), none, none, none, some (.bool false), some (.pointer (some ⟨0, 0, none⟩)), some (.int .i64 0), none, some (.int .i64 i), none, none, none, none, none, none, none, none, none, none, none, none, none, none, none, none, none, none, none, none, none, none, none, none, none, none, none, none, none, none, none, none, none, none, none, none, none, none, none, none, none, none]) (fun i => [.cells [.int .u8 b, .int .u8 0, .int .u8 0, .int .u8 0, .int .i64 i, .bool false, .bool true, .bool true, .bool true, .bool true, .bool false] 58]) (fun i => (i : Int) ≤ c % 300) (fun i => 300 - i) 0 rfl rfl (by omega) (fun _ => rfl) ?_
    clear hi e2 h0 hR
    intro i hi x R hR
    have e2 : IntKind.i64.wrap ((i : Int) + 1) = ((i + 1 : Nat) : Int) := by rw [wrap64 (by omega) (by omega)]; rfl
    have e3 : (if (511 : Int) < ((i + 1 : Nat) : Int) then 511 else ((i + 1 : Nat) : Int)) = ((i + 1 : Nat) : Int) := if_neg (by omega)
    conv => whnf
    refine Bif.of (fun h0 => ?_) fun h0 => ?_
    · rw [h0]
      conv => whnf
      refine ACalls.code tabOk h11 Try.func11 Try.call11 ok11 ?_
      conv => whnf
      refine Bif.knF ?_ fun h1 => ?_
      · (simp_all; done)
      rw [h1]
      conv => whnf
      refine ACalls.code tabOk h10 Try.func10 Try.call10 ok10 ?_
      conv => whnf
      (simp only [e2, e3]; exact hR (i + 1) _ _ rfl rfl (by rw [hN] at h0; simp at h0; omega) (by simp [hN] at h0; omega))
    · rw [h0]
      conv => whnf
      refine ACalls.useE (awake20) [] rfl (by (conv => whnf); try rfl) (by (conv => whnf); try rfl) ?_
      conv => whnf

theorem charges_1 (a b c : Int) (ha : 0 ≤ a ∧ a ≤ 255) (hb : 0 ≤ b ∧ b ≤ 255) (hc : 0 ≤ c ∧ c ≤ 65535) (er : (IntKind.i64.wrap a).tmod 4 = 1) : 
   ACalls Try.prog 3 [.int .u8 a, .int .u8 b, .int .u16 c] [] fun v _ => v = .bool true := by
  have hN : (IntKind.i64.wrap c).tmod 300 = c % 300 := by rw [wrap64 (by omega) (by omega), Int.tmod_eq_emod_of_nonneg (by omega)]
  have hw : IntKind.i64.wrap b = b := wrap64 (by omega) (by omega)
  refine ACalls.code tabOk h3 Try.func3 Try.call3 ok3 ?_
  conv => whnf
  refine ACalls.codeN tabOk h7 Try.func7 Try.call7 ok7 [1] ?_
  conv => whnf
  refine ACalls.code tabOk h8 Try.func8 Try.call8 ok8 ?_
  conv => whnf
  rw [er]
  conv => whnf
  refine ACalls.code tabOk h9 Try.func9 Try.call9 ok9 ?_
  conv => whnf
  refine ALoop.go (fun i : Nat => [some (.int .u8 a), some (.int .u8 b), some (.int .u16 c), none, none, none, some (.bool false), some (.pointer (some ⟨0, 0, none⟩)), some (.int .i64 1), some (.int .i64 i), none, none, none, none, none, none, none, none, none, none, none, none, none, none, none, none, none, none, none, none, none, none, none, none, none, none, none, none, none, none, none, none, none, none, none, none, none, none, none, none, none, none, none]) (fun i => [.cells [.int .u8 0, .int .u8 b, .int .u8 0, .int .u8 0, .int .i64 0, .bool true, .bool true, .bool true, .bool true, .bool true, .bool false] 58]) (fun i => (i : Int) ≤ c % 300) (fun i => 300 - i) 0 rfl rfl (by omega) (fun _ => rfl) ?_
  intro i hi x R hR
  have e2 : IntKind.i64.wrap ((i : Int) + 1) = ((i + 1 : Nat) : Int) := by rw [wrap64 (by omega) (by omega)]; rfl
  conv => whnf
  refine Bif.of (fun h0 => ?_) fun h0 => ?_
  · conv => whnf
    refine ACalls.code tabOk h10 Try.func10 Try.call10 ok10 ?_
    conv => whnf
    refine ACalls.code tabOk h11 Try.func11 Try.call11 ok11 ?_
    conv => whnf
    (rw [e2]; exact hR (i + 1) _ _ rfl rfl (by rw [hN] at h0; simp at h0; omega) (by simp [hN] at h0; omega))
  · conv => whnf
    refine ACalls.code tabOk h9 Try.func9 Try.call9 ok9 ?_
    conv => whnf
    refine ALoop.go (fun i : Nat => [some (.int .u8 a), some (.int .u8 b), some (.int .u16 c), none, none, none, some (.bool false), some (.pointer (some ⟨0, 0, none⟩)), some (.int .i64 1), none, some (.int .i64 i), none, none, none, none, none, none, none, none, none, none, none, none, none, none, none, none, none, none, none, none, none, none, none, none, none, none, none, none, none, none, none, none, none, none, none, none, none, none, none, none, none, none]) (fun i => [.cells [.int .u8 0, .int .u8 b, .int .u8 0, .int .u8 0, .int .i64 i, .bool false, .bool true, .bool true, .bool true, .bool true, .bool false] 58]) (fun i => (i : Int) ≤ c % 300) (fun i => 300 - i) 0 rfl rfl (by omega) (fun _ => rfl) ?_
    clear hi e2 h0 hR
    intro i hi x R hR
    have e2 : IntKind.i64.wrap ((i : Int) + 1) = ((i + 1 : Nat) : Int) := by rw [wrap64 (by omega) (by omega)]; rfl
    have e3 : (if (511 : Int) < ((i + 1 : Nat) : Int) then 511 else ((i + 1 : Nat) : Int)) = ((i + 1 : Nat) : Int) := if_neg (by omega)
    conv => whnf
    refine Bif.of (fun h0 => ?_) fun h0 => ?_
    · rw [h0]
      conv => whnf
      refine ACalls.code tabOk h11 Try.func11 Try.call11 ok11 ?_
      conv => whnf
      refine Bif.knF ?_ fun h1 => ?_
      · (simp_all; done)
      rw [h1]
      conv => whnf
      refine ACalls.code tabOk h10 Try.func10 Try.call10 ok10 ?_
      conv => whnf
      (simp only [e2, e3]; exact hR (i + 1) _ _ rfl rfl (by rw [hN] at h0; simp at h0; omega) (by simp [hN] at h0; omega))
    · rw [h0]
      conv => whnf
      refine ACalls.useE (awake20) [] rfl (by (conv => whnf); try rfl) (by (conv => whnf); try rfl) ?_
      conv => whnf

theorem charges_2 (a b c : Int) (ha : 0 ≤ a ∧ a ≤ 255) (hb : 0 ≤ b ∧ b ≤ 255) (hc : 0 ≤ c ∧ c ≤ 65535) (er : (IntKind.i64.wrap a).tmod 4 = 2) : 
   ACalls Try.prog 3 [.int .u8 a, .int .u8 b, .int .u16 c] [] fun v _ => v = .bool true := by
  have hN : (IntKind.i64.wrap c).tmod 300 = c % 300 := by rw [wrap64 (by omega) (by omega), Int.tmod_eq_emod_of_nonneg (by omega)]
  have hw : IntKind.i64.wrap b = b := wrap64 (by omega) (by omega)
  refine ACalls.code tabOk h3 Try.func3 Try.call3 ok3 ?_
  conv => whnf
  refine ACalls.codeN tabOk h7 Try.func7 Try.call7 ok7 [1] ?_
  conv => whnf
  refine ACalls.code tabOk h8 Try.func8 Try.call8 ok8 ?_
  conv => whnf
  rw [er]
  conv => whnf
  refine ACalls.code tabOk h9 Try.func9 Try.call9 ok9 ?_
  conv => whnf
  refine ALoop.go (fun i : Nat => [some (.int .u8 a), some (.int .u8 b), some (.int .u16 c), none, none, none, some (.bool false), some (.pointer (some ⟨0, 0, none⟩)), some (.int .i64 2), some (.int .i64 i), none, none, none, none, none, none, none, none, none, none, none, none, none, none, none, none, none, none, none, none, none, none, none, none, none, none, none, none, none, none, none, none, none, none, none, none, none, none, none, none, none, none, none]) (fun i => [.cells [.int .u8 0, .int .u8 0, .int .u8 b, .int .u8 0, .int .i64 0, .bool true, .bool true, .bool true, .bool true, .bool true, .bool false] 58]) (fun i => (i : Int) ≤ c % 300) (fun i => 300 - i) 0 rfl rfl (by omega) (fun _ => rfl) ?_
  intro i hi x R hR
  have e2 : IntKind.i64.wrap ((i : Int) + 1) = ((i + 1 : Nat) : Int) := by rw [wrap64 (by omega) (by omega)]; rfl
  conv => whnf
  refine Bif.of (fun h0 => ?_) fun h0 => ?_
  · conv => whnf
    refine ACalls.code tabOk h10 Try.func10 Try.call10 ok10 ?_
    conv => whnf
    refine ACalls.code tabOk h11 Try.func11 Try.call11 ok11 ?_
    conv => whnf
    (rw [e2]; exact hR (i + 1) _ _ rfl rfl (by rw [hN] at h0; simp at h0; omega) (by simp [hN] at h0; omega))
  · conv => whnf
    refine ACalls.code tabOk h9 Try.func9 Try.call9 ok9 ?_
    conv => whnf
    refine ALoop.go (fun i : Nat => [some (.int .u8 a), some (.int .u8 b), some (.int .u16 c), none, none, none, some (.bool false), some (.pointer (some ⟨0, 0, none⟩)), some (.int .i64 2), none, some (.int .i64 i), none, none, none, none, none, none, none, none, none, none, none, none, none, none, none, none, none, none, none, none, none, none, none, none, none, none, none, none, none, none, none, none, none, none, none, none, none, none, none, none, none, none]) (fun i => [.cells [.int .u8 0, .int .u8 0, .int .u8 b, .int .u8 0, .int .i64 i, .bool false, .bool true, .bool true, .bool true, .bool true, .bool false] 58]) (fun i => (i : Int) ≤ c % 300) (fun i => 300 - i) 0 rfl rfl (by omega) (fun _ => rfl) ?_
    clear hi e2 h0 hR
    intro i hi x R hR
    have e2 : IntKind.i64.wrap ((i : Int) + 1) = ((i + 1 : Nat) : Int) := by rw [wrap64 (by omega) (by omega)]; rfl
    have e3 : (if (511 : Int) < ((i + 1 : Nat) : Int) then 511 else ((i + 1 : Nat) : Int)) = ((i + 1 : Nat) : Int) := if_neg (by omega)
    conv => whnf
    refine Bif.of (fun h0 => ?_) fun h0 => ?_
    · rw [h0]
      conv => whnf
      refine ACalls.code tabOk h11 Try.func11 Try.call11 ok11 ?_
      conv => whnf
      refine Bif.knF ?_ fun h1 => ?_
      · (simp_all; done)
      rw [h1]
      conv => whnf
      refine ACalls.code tabOk h10 Try.func10 Try.call10 ok10 ?_
      conv => whnf
      (simp only [e2, e3]; exact hR (i + 1) _ _ rfl rfl (by rw [hN] at h0; simp at h0; omega) (by simp [hN] at h0; omega))
    · rw [h0]
      conv => whnf
      refine ACalls.useE (awake20) [] rfl (by (conv => whnf); try rfl) (by (conv => whnf); try rfl) ?_
      conv => whnf

theorem charges_3 (a b c : Int) (ha : 0 ≤ a ∧ a ≤ 255) (hb : 0 ≤ b ∧ b ≤ 255) (hc : 0 ≤ c ∧ c ≤ 65535) (er : (IntKind.i64.wrap a).tmod 4 = 3) : 
   ACalls Try.prog 3 [.int .u8 a, .int .u8 b, .int .u16 c] [] fun v _ => v = .bool true := by
  have hN : (IntKind.i64.wrap c).tmod 300 = c % 300 := by rw [wrap64 (by omega) (by omega), Int.tmod_eq_emod_of_nonneg (by omega)]
  have hw : IntKind.i64.wrap b = b := wrap64 (by omega) (by omega)
  refine ACalls.code tabOk h3 Try.func3 Try.call3 ok3 ?_
  conv => whnf
  refine ACalls.codeN tabOk h7 Try.func7 Try.call7 ok7 [1] ?_
  conv => whnf
  refine ACalls.code tabOk h8 Try.func8 Try.call8 ok8 ?_
  conv => whnf
  rw [er]
  conv => whnf
  refine ACalls.code tabOk h9 Try.func9 Try.call9 ok9 ?_
  conv => whnf
  refine ALoop.go (fun i : Nat => [some (.int .u8 a), some (.int .u8 b), some (.int .u16 c), none, none, none, some (.bool false), some (.pointer (some ⟨0, 0, none⟩)), some (.int .i64 3), some (.int .i64 i), none, none, none, none, none, none, none, none, none, none, none, none, none, none, none, none, none, none, none, none, none, none, none, none, none, none, none, none, none, none, none, none, none, none, none, none, none, none, none, none, none, none, none]) (fun i => [.cells [.int .u8 0, .int .u8 0, .int .u8 0, .int .u8 b, .int .i64 0, .bool true, .bool true, .bool true, .bool true, .bool true, .bool false] 58]) (fun i => (i : Int) ≤ c % 300) (fun i => 300 - i) 0 rfl rfl (by omega) (fun _ => rfl) ?_
  intro i hi x R hR
  have e2 : IntKind.i64.wrap ((i : Int) + 1) = ((i + 1 : Nat) : Int) := by rw [wrap64 (by omega) (by omega)]; rfl
  conv => whnf
  refine Bif.of (fun h0 => ?_) fun h0 => ?_
  · conv => whnf
    refine ACalls.code tabOk h10 Try.func10 Try.call10 ok10 ?_
    conv => whnf
    refine ACalls.code tabOk h11 Try.func11 Try.call11 ok11 ?_
    conv => whnf
    (rw [e2]; exact hR (i + 1) _ _ rfl rfl (by rw [hN] at h0; simp at h0; omega) (by simp [hN] at h0; omega))
  · conv => whnf
    refine ACalls.code tabOk h9 Try.func9 Try.call9 ok9 ?_
    conv => whnf
    refine ALoop.go (fun i : Nat => [some (.int .u8 a), some (.int .u8 b), some (.int .u16 c), none, none, none, some (.bool false), some (.pointer (some ⟨0, 0, none⟩)), some (.int .i64 3), none, some (.int .i64 i), none, none, none, none, none, none, none, none, none, none, none, none, none, none, none, none, none, none, none, none, none, none, none, none, none, none, none, none, none, none, none, none, none, none, none, none, none, none, none, none, none, none]) (fun i => [.cells [.int .u8 0, .int .u8 0, .int .u8 0, .int .u8 b, .int .i64 i, .bool false, .bool true, .bool true, .bool true, .bool true, .bool false] 58]) (fun i => (i : Int) ≤ c % 300) (fun i => 300 - i) 0 rfl rfl (by omega) (fun _ => rfl) ?_
    clear hi e2 h0 hR
    intro i hi x R hR
    have e2 : IntKind.i64.wrap ((i : Int) + 1) = ((i + 1 : Nat) : Int) := by rw [wrap64 (by omega) (by omega)]; rfl
    have e3 : (if (511 : Int) < ((i + 1 : Nat) : Int) then 511 else ((i + 1 : Nat) : Int)) = ((i + 1 : Nat) : Int) := if_neg (by omega)
    conv => whnf
    refine Bif.of (fun h0 => ?_) fun h0 => ?_
    · rw [h0]
      conv => whnf
      refine ACalls.code tabOk h11 Try.func11 Try.call11 ok11 ?_
      conv => whnf
      refine Bif.knF ?_ fun h1 => ?_
      · (simp_all; done)
      rw [h1]
      conv => whnf
      refine ACalls.code tabOk h10 Try.func10 Try.call10 ok10 ?_
      conv => whnf
      (simp only [e2, e3]; exact hR (i + 1) _ _ rfl rfl (by rw [hN] at h0; simp at h0; omega) (by simp [hN] at h0; omega))
    · rw [h0]
      conv => whnf
      refine ACalls.useE (awake20) [] rfl (by (conv => whnf); try rfl) (by (conv => whnf); try rfl) ?_
      conv => whnf

theorem walk_PotCharges (a b c : Int) (wa : (Lit.int .u8 a).wf = true) (wb : (Lit.int .u8 b).wf = true) (wc : (Lit.int .u16 c).wf = true) : 
   ACalls Try.prog 3 [.int .u8 a, .int .u8 b, .int .u16 c] [] fun v _ => v = .bool true := by
  have ha := wf_u8 wa
  have hb := wf_u8 wb
  have hc := wf_u16 wc
  have e : (IntKind.i64.wrap a).tmod 4 = a % 4 := by rw [wrap64 (by omega) (by omega), Int.tmod_eq_emod_of_nonneg (by omega)]
  have h : a % 4 = 0 ∨ a % 4 = 1 ∨ a % 4 = 2 ∨ a % 4 = 3 := by omega
  rcases h with h | h | h | h
  · exact charges_0 a b c ha hb hc (e.trans h)
  · exact charges_1 a b c ha hb hc (e.trans h)
  · exact charges_2 a b c ha hb hc (e.trans h)
  · exact charges_3 a b c ha hb hc (e.trans h)
end Go.Proofs
