/-
  Walks through the functions of the program, by contract.
-/
import Derived.Test.YtfnhfbimokkjiaaPotF
import Derived.Test.YtfnhfbimokkjiaaPot1F
set_option linter.all false
set_option linter.unusedVariables false
set_option linter.unusedSimpArgs false
set_option linter.unnecessarySimpa false
namespace Go.Proofs
open Go.Aw
set_option maxRecDepth 100000
set_option maxHeartbeats 2000000

/-- Was one of the first bytes low? -/
def plow (L : Nat → Int) : Nat → Bool
  | 0 => false
  | i + 1 => plow L i || decide (L i < 128)
/-- The level behind the first bytes. -/
def plast (L : Nat → Int) : Nat → Bool
  | 0 => true
  | i + 1 => decide (128 ≤ L i)

theorem pot_new : ACalls Try.prog 7 [] [] fun r H => r = .pointer (some ⟨0, 0, none⟩) ∧ H = [PS.blk ⟨0, 0, 0, 0, 0, false, true, true, true, true, false⟩] := by
  refine ACalls.codeN tabOk h7 Try.func7 Try.call7 ok7 [1] ?_
  conv => whnf
  exact ⟨rfl, rfl⟩

theorem latches_0 (n : Int) (off len cap : Nat) (hl : len ≤ maxLen) (E : Nat → List Value) (L : Nat → Int) (hL : ∀ i, 0 ≤ L i ∧ L i ≤ 255) (hE : ∀ i, i < len → E i = [.int .u8 (L i)]) (er : (IntKind.i64.wrap n).tmod 2 = 0) :
   ACalls Try.prog 4 [.int .u8 n, .slice (some ⟨0, off, none⟩) len cap] [.ro (slc off 1 len E)] fun v _ => v = .bool true := by
  refine ACalls.code tabOk h4 Try.func4 Try.call4 ok4 ?_
  conv => whnf
  refine Bif.of (fun h60 => ?_) fun h60 => ?_
  · conv => whnf
    refine ⟨rfl, ?_⟩
    conv => whnf
  conv => whnf
  have hl : len ≤ 60 := by simp at h60; omega
  refine ACalls.useE (pot_new) [] rfl (by (conv => whnf); try rfl) (by (conv => whnf); try rfl) ?_
  conv => whnf
  refine ACalls.code tabOk h13 Try.func13 Try.call13 ok13 ?_
  conv => whnf
  refine ACalls.useE (pot_see _ _ _ _ _ _ _ _ _ _ _) [1] rfl (by (conv => whnf); try rfl) (by (conv => whnf); try rfl) ?_
  conv => whnf
  refine ⟨rfl, ?_⟩
  conv => whnf
  rw [er]
  refine ALoop.go (σ := Nat × Bool × Bool) (fun s => [some (.int .u8 n), some (.slice (some ⟨0, off, none⟩) len cap), none, none, some (.bool false), some (.pointer (some ⟨1, 0, none⟩)), some (.int .i64 4), some (.bool s.2.1), some (.int .i64 s.1), none, none, none, none, none, none, none, none, none, none, none, none, none, none, none, none, none, none, none, none, none, none, none, none, none, none, none, none, none, none, none, none, none, none, none, none, none, none, none, none, none, none, none, none, none, none, none, none, none, none, none, none, none, none, none, none, none]) (fun s => [.ro (slc off 1 len E), PS.blk ⟨0, 0, 0, 0, 0, false, s.2.2, !s.2.1, true, true, true⟩]) (fun s => s.1 ≤ len ∧ s.2.1 = plow L s.1 ∧ s.2.2 = plast L s.1) (fun s => len - s.1) (0, false, true) rfl rfl ⟨Nat.zero_le _, rfl, rfl⟩ (fun _ => rfl) ?_
  rintro s ⟨hi, hb, hq⟩ x R hR
  have e2 : IntKind.i64.wrap ((s.1 : Int) + 1) = ((s.1 + 1 : Nat) : Int) := by rw [wrap64 (by omega) (by omega)]; rfl
  have ht : (bits .and .u8 (L s.1) 128 != 0) = !decide (L s.1 < 128) := by
    have := hL s.1
    rw [and128u _ this, ← decide_not, decide_eq_decide]; omega
  have ht2 : decide (128 ≤ L s.1) = !decide (L s.1 < 128) := by rw [← decide_not, decide_eq_decide]; omega
  conv => whnf
  refine Bif.of (fun h0 => ?_) fun h0 => ?_
  · conv => whnf
    have hlt : s.1 < len := by simp at h0; omega
    refine Req.of ?_ ?_
    · (clear hR; simp; omega)
    conv => whnf
    refine slc_ex s.1 0 hlt (by decide) (by rw [hE s.1 hlt]; rfl) (by first | omega | (simp; done)) ?_
    conv => whnf
    refine ACalls.code tabOk h8 Try.func8 Try.call8 ok8 ?_
    conv => whnf
    refine ACalls.useE (pot_see _ _ _ _ _ _ _ _ _ _ _) [1] rfl (by (conv => whnf); try rfl) (by (conv => whnf); try rfl) ?_
    conv => whnf
    refine ⟨rfl, ?_⟩
    conv => whnf
    refine Bif.of (fun h0 => ?_) fun h0 => ?_
    · rw [h0]
      conv => whnf
      refine ACalls.code tabOk h11 Try.func11 Try.call11 ok11 ?_
      conv => whnf
      refine ⟨rfl, ?_⟩
      conv => whnf
      (rw [e2]; have h0 : s.2.1 = true := h0; exact hR (s.1 + 1, true, !decide (L s.1 < 128)) _ _ rfl (by clear hR; simp [PS.blk, h0, ht]) ⟨hlt, by simp [plow, ← hb, h0], by simp [plast, ht2]⟩ (by show len - (s.1 + 1) < len - s.1; omega))
    · rw [h0]
      conv => whnf
      refine Req.of ?_ ?_
      · (clear hR; simp; omega)
      conv => whnf
      refine slc_ex s.1 0 hlt (by decide) (by rw [hE s.1 hlt]; rfl) (by first | omega | (simp; done)) ?_
      conv => whnf
      refine ACalls.code tabOk h11 Try.func11 Try.call11 ok11 ?_
      conv => whnf
      refine ⟨rfl, ?_⟩
      conv => whnf
      refine Bif.knF ?_ fun h1 => ?_
      · (clear hR; simp [ht, h0]; done)
      rw [h1]
      conv => whnf
      (rw [e2]; have h0 : s.2.1 = false := h0; exact hR (s.1 + 1, decide (L s.1 < 128), !decide (L s.1 < 128)) _ _ rfl (by clear hR; simp [PS.blk, h0, ht]) ⟨hlt, by simp [plow, ← hb, h0], by simp [plast, ht2]⟩ (by show len - (s.1 + 1) < len - s.1; omega))
  · conv => whnf
    have hs : s.1 = len := by simp at h0; omega
    clear hR h0 hi
    have e5 : len ≠ 0 → IntKind.i64.wrap ((len : Int) - 1) = ((len - 1 : Nat) : Int) := fun h => by rw [wrap64 (by omega) (by omega)]; omega
    have e6 : (len : Int) ≠ 0 → s.2.2 = decide (L (len - 1) ≥ 128) := fun h => by
      rw [hq, hs]
      obtain ⟨k, rfl⟩ : ∃ k, len = k + 1 := ⟨len - 1, by omega⟩
      rfl
    have e7 : (len : Int) = 0 → s.2.2 = true := fun h => by
      rw [hq, hs, show len = 0 by omega]
      rfl
    refine ACalls.code tabOk h13 Try.func13 Try.call13 ok13 ?_
    conv => whnf
    refine ACalls.useE (pot_see _ _ _ _ _ _ _ _ _ _ _) [1] rfl (by (conv => whnf); try rfl) (by (conv => whnf); try rfl) ?_
    conv => whnf
    refine ⟨rfl, ?_⟩
    conv => whnf
    refine ACalls.code tabOk h11 Try.func11 Try.call11 ok11 ?_
    conv => whnf
    refine ⟨rfl, ?_⟩
    conv => whnf
    refine Bif.of (fun h0 => ?_) fun h0 => ?_
    · rw [h0]
      conv => whnf
      refine Bif.knT ?_ fun h1 => ?_
      · (simp at h0; simp [e7 (by omega)]; done)
      rw [h1]
      conv => whnf
      refine ACalls.useE (awake20) [] rfl (by (conv => whnf); try rfl) (by (conv => whnf); try rfl) ?_
      conv => whnf
      refine ⟨rfl, ?_⟩
      conv => whnf
    · rw [h0]
      conv => whnf
      (rw [e5 (by simp at h0; omega)])
      conv => whnf
      refine Req.of ?_ ?_
      · (simp at h0; simp; omega)
      conv => whnf
      refine slc_ex (len - 1) 0 (by simp at h0; omega) (by decide) (by rw [hE (len - 1) (by simp at h0; omega)]; rfl) (by first | omega | (simp; done)) ?_
      conv => whnf
      refine Bif.knT ?_ fun h2 => ?_
      · (simp at h0; simp [e6 (by omega)]; done)
      rw [h2]
      conv => whnf
      refine ACalls.useE (awake20) [] rfl (by (conv => whnf); try rfl) (by (conv => whnf); try rfl) ?_
      conv => whnf
      refine ⟨rfl, ?_⟩
      conv => whnf

theorem latches_1 (n : Int) (off len cap : Nat) (hl : len ≤ maxLen) (E : Nat → List Value) (L : Nat → Int) (hL : ∀ i, 0 ≤ L i ∧ L i ≤ 255) (hE : ∀ i, i < len → E i = [.int .u8 (L i)]) (er : (IntKind.i64.wrap n).tmod 2 = 1) :
   ACalls Try.prog 4 [.int .u8 n, .slice (some ⟨0, off, none⟩) len cap] [.ro (slc off 1 len E)] fun v _ => v = .bool true := by
  refine ACalls.code tabOk h4 Try.func4 Try.call4 ok4 ?_
  conv => whnf
  refine Bif.of (fun h60 => ?_) fun h60 => ?_
  · conv => whnf
    refine ⟨rfl, ?_⟩
    conv => whnf
  conv => whnf
  have hl : len ≤ 60 := by simp at h60; omega
  refine ACalls.useE (pot_new) [] rfl (by (conv => whnf); try rfl) (by (conv => whnf); try rfl) ?_
  conv => whnf
  refine ACalls.code tabOk h13 Try.func13 Try.call13 ok13 ?_
  conv => whnf
  refine ACalls.useE (pot_see _ _ _ _ _ _ _ _ _ _ _) [1] rfl (by (conv => whnf); try rfl) (by (conv => whnf); try rfl) ?_
  conv => whnf
  refine ⟨rfl, ?_⟩
  conv => whnf
  rw [er]
  refine ALoop.go (σ := Nat × Bool × Bool) (fun s => [some (.int .u8 n), some (.slice (some ⟨0, off, none⟩) len cap), none, none, some (.bool false), some (.pointer (some ⟨1, 0, none⟩)), some (.int .i64 5), some (.bool s.2.1), some (.int .i64 s.1), none, none, none, none, none, none, none, none, none, none, none, none, none, none, none, none, none, none, none, none, none, none, none, none, none, none, none, none, none, none, none, none, none, none, none, none, none, none, none, none, none, none, none, none, none, none, none, none, none, none, none, none, none, none, none, none, none]) (fun s => [.ro (slc off 1 len E), PS.blk ⟨0, 0, 0, 0, 0, false, true, true, s.2.2, !s.2.1, true⟩]) (fun s => s.1 ≤ len ∧ s.2.1 = plow L s.1 ∧ s.2.2 = plast L s.1) (fun s => len - s.1) (0, false, true) rfl rfl ⟨Nat.zero_le _, rfl, rfl⟩ (fun _ => rfl) ?_
  rintro s ⟨hi, hb, hq⟩ x R hR
  have e2 : IntKind.i64.wrap ((s.1 : Int) + 1) = ((s.1 + 1 : Nat) : Int) := by rw [wrap64 (by omega) (by omega)]; rfl
  have ht : (bits .and .u8 (L s.1) 128 != 0) = !decide (L s.1 < 128) := by
    have := hL s.1
    rw [and128u _ this, ← decide_not, decide_eq_decide]; omega
  have ht2 : decide (128 ≤ L s.1) = !decide (L s.1 < 128) := by rw [← decide_not, decide_eq_decide]; omega
  conv => whnf
  refine Bif.of (fun h0 => ?_) fun h0 => ?_
  · conv => whnf
    have hlt : s.1 < len := by simp at h0; omega
    refine Req.of ?_ ?_
    · (clear hR; simp; omega)
    conv => whnf
    refine slc_ex s.1 0 hlt (by decide) (by rw [hE s.1 hlt]; rfl) (by first | omega | (simp; done)) ?_
    conv => whnf
    refine ACalls.code tabOk h8 Try.func8 Try.call8 ok8 ?_
    conv => whnf
    refine ACalls.useE (pot_see _ _ _ _ _ _ _ _ _ _ _) [1] rfl (by (conv => whnf); try rfl) (by (conv => whnf); try rfl) ?_
    conv => whnf
    refine ⟨rfl, ?_⟩
    conv => whnf
    refine Bif.of (fun h0 => ?_) fun h0 => ?_
    · rw [h0]
      conv => whnf
      refine ACalls.code tabOk h11 Try.func11 Try.call11 ok11 ?_
      conv => whnf
      refine ⟨rfl, ?_⟩
      conv => whnf
      (rw [e2]; have h0 : s.2.1 = true := h0; exact hR (s.1 + 1, true, !decide (L s.1 < 128)) _ _ rfl (by clear hR; simp [PS.blk, h0, ht]) ⟨hlt, by simp [plow, ← hb, h0], by simp [plast, ht2]⟩ (by show len - (s.1 + 1) < len - s.1; omega))
    · rw [h0]
      conv => whnf
      refine Req.of ?_ ?_
      · (clear hR; simp; omega)
      conv => whnf
      refine slc_ex s.1 0 hlt (by decide) (by rw [hE s.1 hlt]; rfl) (by first | omega | (simp; done)) ?_
      conv => whnf
      refine ACalls.code tabOk h11 Try.func11 Try.call11 ok11 ?_
      conv => whnf
      refine ⟨rfl, ?_⟩
      conv => whnf
      refine Bif.knF ?_ fun h1 => ?_
      · (clear hR; simp [ht, h0]; done)
      rw [h1]
      conv => whnf
      (rw [e2]; have h0 : s.2.1 = false := h0; exact hR (s.1 + 1, decide (L s.1 < 128), !decide (L s.1 < 128)) _ _ rfl (by clear hR; simp [PS.blk, h0, ht]) ⟨hlt, by simp [plow, ← hb, h0], by simp [plast, ht2]⟩ (by show len - (s.1 + 1) < len - s.1; omega))
  · conv => whnf
    have hs : s.1 = len := by simp at h0; omega
    clear hR h0 hi
    have e5 : len ≠ 0 → IntKind.i64.wrap ((len : Int) - 1) = ((len - 1 : Nat) : Int) := fun h => by rw [wrap64 (by omega) (by omega)]; omega
    have e6 : (len : Int) ≠ 0 → s.2.2 = decide (L (len - 1) ≥ 128) := fun h => by
      rw [hq, hs]
      obtain ⟨k, rfl⟩ : ∃ k, len = k + 1 := ⟨len - 1, by omega⟩
      rfl
    have e7 : (len : Int) = 0 → s.2.2 = true := fun h => by
      rw [hq, hs, show len = 0 by omega]
      rfl
    refine ACalls.code tabOk h13 Try.func13 Try.call13 ok13 ?_
    conv => whnf
    refine ACalls.useE (pot_see _ _ _ _ _ _ _ _ _ _ _) [1] rfl (by (conv => whnf); try rfl) (by (conv => whnf); try rfl) ?_
    conv => whnf
    refine ⟨rfl, ?_⟩
    conv => whnf
    refine ACalls.code tabOk h11 Try.func11 Try.call11 ok11 ?_
    conv => whnf
    refine ⟨rfl, ?_⟩
    conv => whnf
    refine Bif.of (fun h0 => ?_) fun h0 => ?_
    · rw [h0]
      conv => whnf
      refine Bif.knT ?_ fun h1 => ?_
      · (simp at h0; simp [e7 (by omega)]; done)
      rw [h1]
      conv => whnf
      refine ACalls.useE (awake20) [] rfl (by (conv => whnf); try rfl) (by (conv => whnf); try rfl) ?_
      conv => whnf
      refine ⟨rfl, ?_⟩
      conv => whnf
    · rw [h0]
      conv => whnf
      (rw [e5 (by simp at h0; omega)])
      conv => whnf
      refine Req.of ?_ ?_
      · (simp at h0; simp; omega)
      conv => whnf
      refine slc_ex (len - 1) 0 (by simp at h0; omega) (by decide) (by rw [hE (len - 1) (by simp at h0; omega)]; rfl) (by first | omega | (simp; done)) ?_
      conv => whnf
      refine Bif.knT ?_ fun h2 => ?_
      · (simp at h0; simp [e6 (by omega)]; done)
      rw [h2]
      conv => whnf
      refine ACalls.useE (awake20) [] rfl (by (conv => whnf); try rfl) (by (conv => whnf); try rfl) ?_
      conv => whnf
      refine ⟨rfl, ?_⟩
      conv => whnf

theorem bytes_of {len : Nat} {E : Nat → List Value} (hE : ∀ i, i < len → FitsAll [.int .u8] (E i)) : ∃ L : Nat → Int, (∀ i, 0 ≤ L i ∧ L i ≤ 255) ∧ ∀ i, i < len → E i = [.int .u8 (L i)] := by
  have h : ∀ i, ∃ n : Int, (0 ≤ n ∧ n ≤ 255) ∧ (i < len → E i = [.int .u8 n]) := fun i => by
    by_cases hi : i < len
    · obtain ⟨n, cs, h1, h2, h3⟩ := fits_int (hE i hi)
      obtain rfl := fits_nil h3
      exact ⟨n, wf_u8 h2, fun _ => h1⟩
    · exact ⟨0, by omega, fun h => absurd h hi⟩
  exact ⟨fun i => (h i).choose, fun i => (h i).choose_spec.1, fun i hi => (h i).choose_spec.2 hi⟩

theorem walk_PotLatches (n : Int) (wn : (Lit.int .u8 n).wf = true) (off len cap : Nat) (hl : len ≤ maxLen) (E : Nat → List Value) (hE : ∀ i, i < len → FitsAll [.int .u8] (E i)) :
   ACalls Try.prog 4 [.int .u8 n, .slice (some ⟨0, off, none⟩) len cap] [.ro (slc off 1 len E)] fun v _ => v = .bool true := by
  obtain ⟨L, hL, hE⟩ := bytes_of hE
  have hn := wf_u8 wn
  have e : (IntKind.i64.wrap n).tmod 2 = n % 2 := by rw [wrap64 (by omega) (by omega), Int.tmod_eq_emod_of_nonneg (by omega)]
  have h : n % 2 = 0 ∨ n % 2 = 1 := by omega
  rcases h with h | h
  · exact latches_0 n off len cap hl E L hL hE (e.trans h)
  · exact latches_1 n off len cap hl E L hL hE (e.trans h)

theorem walk_PotLatches_nil (n : Int) (wn : (Lit.int .u8 n).wf = true) :
   ACalls Try.prog 4 [.int .u8 n, .slice none 0 0] [] fun v _ => v = .bool true := by
  have hn := wf_u8 wn
  have e : (IntKind.i64.wrap n).tmod 2 = n % 2 := by rw [wrap64 (by omega) (by omega), Int.tmod_eq_emod_of_nonneg (by omega)]
  have h : n % 2 = 0 ∨ n % 2 = 1 := by omega
  rcases h with h | h
  · have er := e.trans h
    refine ACalls.code tabOk h4 Try.func4 Try.call4 ok4 ?_
    conv => whnf
    refine ACalls.useE (pot_new) [] rfl (by (conv => whnf); try rfl) (by (conv => whnf); try rfl) ?_
    conv => whnf
    refine ACalls.code tabOk h13 Try.func13 Try.call13 ok13 ?_
    conv => whnf
    refine ACalls.useE (pot_see _ _ _ _ _ _ _ _ _ _ _) [0] rfl (by (conv => whnf); try rfl) (by (conv => whnf); try rfl) ?_
    conv => whnf
    rw [er]
    refine ALoop.run 1 ?_
    conv => whnf
    refine ACalls.code tabOk h13 Try.func13 Try.call13 ok13 ?_
    conv => whnf
    refine ACalls.useE (pot_see _ _ _ _ _ _ _ _ _ _ _) [0] rfl (by (conv => whnf); try rfl) (by (conv => whnf); try rfl) ?_
    conv => whnf
    refine ACalls.code tabOk h11 Try.func11 Try.call11 ok11 ?_
    conv => whnf
    refine ACalls.useE (awake20) [] rfl (by (conv => whnf); try rfl) (by (conv => whnf); try rfl) ?_
    conv => whnf
  · have er := e.trans h
    refine ACalls.code tabOk h4 Try.func4 Try.call4 ok4 ?_
    conv => whnf
    refine ACalls.useE (pot_new) [] rfl (by (conv => whnf); try rfl) (by (conv => whnf); try rfl) ?_
    conv => whnf
    refine ACalls.code tabOk h13 Try.func13 Try.call13 ok13 ?_
    conv => whnf
    refine ACalls.useE (pot_see _ _ _ _ _ _ _ _ _ _ _) [0] rfl (by (conv => whnf); try rfl) (by (conv => whnf); try rfl) ?_
    conv => whnf
    rw [er]
    refine ALoop.run 1 ?_
    conv => whnf
    refine ACalls.code tabOk h13 Try.func13 Try.call13 ok13 ?_
    conv => whnf
    refine ACalls.useE (pot_see _ _ _ _ _ _ _ _ _ _ _) [0] rfl (by (conv => whnf); try rfl) (by (conv => whnf); try rfl) ?_
    conv => whnf
    refine ACalls.code tabOk h11 Try.func11 Try.call11 ok11 ?_
    conv => whnf
    refine ACalls.useE (awake20) [] rfl (by (conv => whnf); try rfl) (by (conv => whnf); try rfl) ?_
    conv => whnf
end Go.Proofs
