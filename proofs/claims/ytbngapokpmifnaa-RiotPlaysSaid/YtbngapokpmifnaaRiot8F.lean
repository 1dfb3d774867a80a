/-
  Walks through the functions of the program, by contract.
-/
import Derived.Test.YtbngapokpmifnaaRiot7F
set_option linter.all false
set_option linter.unusedVariables false
set_option linter.unusedSimpArgs false
set_option linter.unnecessarySimpa false
namespace Go.Proofs
open Go.Aw
set_option maxRecDepth 100000
set_option maxHeartbeats 8000000
theorem ram_ext {L M : List Value} (hL : Ram L) (hM : Ram M) (h : ∀ j, j < 128 → rd L j = rd M j) : L = M := by
  apply List.ext_getElem?
  intro j
  by_cases hj : j < 128
  · rw [hL.at hj, hM.at hj, h j hj]
  · rw [List.getElem?_eq_none (by rw [hL.len]; omega), List.getElem?_eq_none (by rw [hM.len]; omega)]
theorem or_nat16 {a b : Nat} (ha : a < 2 ^ 16) (hb : b < 2 ^ 16) : bits .or .u16 (a : Int) (b : Int) = ((a ||| b : Nat) : Int) := by
  have h1 : ∀ x : Nat, x < 2 ^ 16 → (BitVec.ofInt IntKind.u16.bits (x : Int)).toNat = x := fun x hx => by
    rw [BitVec.toNat_ofInt]
    rw [Int.emod_eq_of_lt (Int.natCast_nonneg _) (by exact_mod_cast hx)]
    rfl
  show IntKind.u16.wrap ((BitVec.ofInt IntKind.u16.bits (a : Int) ||| BitVec.ofInt IntKind.u16.bits (b : Int)).toNat : Int) = _
  have h2 : a ||| b < 2 ^ 16 := Nat.or_lt_two_pow ha hb
  rw [BitVec.toNat_or, h1 a ha, h1 b hb, wrap16 (by omega) (by omega)]
/-- An address with other high bits. -/
theorem mirror {ad h : Int} (had : 0 ≤ ad ∧ ad ≤ 65535) (hh : 0 ≤ h ∧ h ≤ 255) :
    bits .or .u16 (bits .and .u16 ad 1023) (IntKind.u16.wrap (IntKind.u16.wrap h * 2 ^ min (10 : Int).toNat IntKind.u16.bits)) = ad % 1024 + 1024 * (h % 64) := by
  have e1 : bits .and .u16 ad 1023 = ad % 1024 := and_mask .u16 ad 10 (by decide)
  have e2 : (2 : Int) ^ min (10 : Int).toNat IntKind.u16.bits = 1024 := by decide
  have e3 : IntKind.u16.wrap (IntKind.u16.wrap h * 1024) = 1024 * (h % 64) := by
    rw [wrap16 (n := h) (by omega) (by omega)]
    simp only [IntKind.wrap, IntKind.signed, IntKind.bits, Bool.false_and, Bool.false_eq_true, if_false]
    omega
  rw [e1, e2, e3]
  obtain ⟨a, ha⟩ : ∃ a : Nat, ad % 1024 = a := ⟨(ad % 1024).toNat, by omega⟩
  obtain ⟨b, hb⟩ : ∃ b : Nat, h % 64 = b := ⟨(h % 64).toNat, by omega⟩
  rw [ha, hb]
  have e4 : (1024 : Int) * (b : Int) = ((2 ^ 10 * b : Nat) : Int) := by simp
  rw [e4, or_nat16 (by omega) (by omega), Nat.or_comm, ← Nat.two_pow_add_eq_or_of_lt (by omega)]
  omega
abbrev raKs : List CK := [.int .i64, .int .u16, .int .u16, .int .u8, .int .u8]
theorem ra_cells {cs : List Value} (h : FitsAll raKs cs) : ∃ kd cy ad v u : Int, cs = [.int .i64 kd, .int .u16 cy, .int .u16 ad, .int .u8 v, .int .u8 u] ∧ (0 ≤ cy ∧ cy ≤ 65535) ∧ (0 ≤ ad ∧ ad ≤ 65535) ∧ (0 ≤ v ∧ v ≤ 255) ∧ (0 ≤ u ∧ u ≤ 255) := by
  obtain ⟨k, _, rfl, _, h⟩ := fits_int h
  obtain ⟨c, _, rfl, b1, h⟩ := fits_int h
  obtain ⟨a, _, rfl, b2, h⟩ := fits_int h
  obtain ⟨v, _, rfl, b3, h⟩ := fits_int h
  obtain ⟨u, _, rfl, b4, h⟩ := fits_int h
  obtain rfl := fits_nil h
  exact ⟨k, c, a, v, u, rfl, wf_u16 b1, wf_u16 b2, wf_u8 b3, wf_u8 b4⟩
theorem walk_RiotMirrors (h : Int) (wh : (Lit.int .u8 h).wf = true) (off len cap : Nat) (hl : len ≤ maxLen) (E : Nat → List Value) (hE : ∀ i, i < len → FitsAll raKs (E i)) :
    ACalls Try.prog 11 [.slice (some ⟨0, off, none⟩) len cap, .int .u8 h] [.ro (slc off 5 len E)] fun v _ => v = .bool true := by
  have hh := wf_u8 wh
  refine ACalls.code tabOk h11 Try.func11 Try.call11 ok11 ?_
  conv => whnf
  refine Bif.of (fun h60 => ?_) fun h60 => ?_
  · conv => whnf
    refine ⟨rfl, ?_⟩
    conv => whnf
  have hl : len ≤ 40 := by simp at h60; omega
  conv => whnf
  refine ACalls.useX riot_new0 [] rfl (by (conv => whnf); try rfl) (by (conv => whnf); try rfl) ?_
  rintro L ⟨hL, hz⟩
  conv => whnf
  refine renL_riot hL rfl ?_
  conv => whnf
  refine ACalls.useX riot_new0 [] rfl (by (conv => whnf); try rfl) (by (conv => whnf); try rfl) ?_
  rintro M ⟨hM, hzM⟩
  obtain rfl : L = M := ram_ext hL hM fun j hj => by rw [hz j hj, hzM j hj]
  conv => whnf
  refine renL_riot hL rfl ?_
  conv => whnf

  refine ALoop.fd (σ := Nat × {s : RS // s.Ok}) (fun (⟨i, s, _⟩ : Nat × {s : RS // s.Ok}) => [.slice (some ⟨0, off, none⟩) len cap, .int .u8 h, .chan none, .chan none, .bool false, .pointer (some ⟨1, 0, none⟩), .pointer (some ⟨6, 0, none⟩), .int .i64 i, .chan none, .chan none, .chan none, .chan none, .chan none, .chan none, .chan none, .chan none, .chan none, .chan none, .chan none, .chan none, .chan none, .chan none, .chan none, .chan none, .chan none, .chan none, .chan none, .chan none, .chan none, .chan none, .chan none, .chan none, .chan none, .chan none, .chan none, .chan none, .chan none, .chan none, .chan none, .chan none, .chan none, .chan none, .chan none, .chan none, .chan none, .chan none, .chan none, .chan none, .chan none, .chan none, .chan none, .chan none]) (fun (⟨i, s, _⟩ : Nat × {s : RS // s.Ok}) => [.ro (slc off 5 len E), .cells (riotC s.L (.pointer (some ⟨2, 0, none⟩)) (.pointer (some ⟨3, 0, none⟩)) (.pointer (some ⟨4, 0, none⟩)) (.pointer (some ⟨5, 0, none⟩))) 110, .cells [.int .u8 s.i0, .int .u8 s.o0, .int .u8 s.w0] 97, .cells [.int .u8 s.i1, .int .u8 s.o1, .int .u8 s.w1] 97, s.tm.blk, .cells [.bool s.el, .bool s.er, .bool s.ec] 99, .cells (riotC s.L (.pointer (some ⟨7, 0, none⟩)) (.pointer (some ⟨8, 0, none⟩)) (.pointer (some ⟨9, 0, none⟩)) (.pointer (some ⟨10, 0, none⟩))) 110, .cells [.int .u8 s.i0, .int .u8 s.o0, .int .u8 s.w0] 97, .cells [.int .u8 s.i1, .int .u8 s.o1, .int .u8 s.w1] 97, s.tm.blk, .cells [.bool s.el, .bool s.er, .bool s.ec] 99]) (fun s => s.1 ≤ len) (fun s => len - s.1) (0, ⟨rs0 L, rs0_ok hL⟩) [] rfl rfl (Nat.zero_le _) ?_ ?_
  · rintro ⟨i, s, hs⟩
    refine ⟨rfl, rfl, ?_, rfl⟩
    simp only [List.all_cons, List.all_nil, Bool.and_true, Bool.and_eq_true]
    exact ⟨rfl, riotC_all hs.L (fun _ => rfl) rfl, rfl, rfl, rfl, rfl, riotC_all hs.L (fun _ => rfl) rfl, rfl, rfl, rfl, rfl⟩
  rintro ⟨i, s, hs⟩ hi R hR
  dsimp only at hi
  have e2 : IntKind.i64.wrap ((i : Int) + 1) = ((i + 1 : Nat) : Int) := by rw [wrap64 (by omega) (by omega)]; rfl
  conv => whnf
  refine Bif.of (fun h0 => ?_) fun h0 => ?_
  · have hlt : i < len := by simp at h0; omega
    obtain ⟨kd, cy, ad, v, u, hEi, b1, b2, b3, b4⟩ := ra_cells (hE i hlt)
    have hmir := mirror b2 hh
    have had2 : 0 ≤ ad % 1024 + 1024 * (h % 64) ∧ ad % 1024 + 1024 * (h % 64) ≤ 65535 := by omega
    have hmod : (ad % 1024 + 1024 * (h % 64)) % 1024 = ad % 1024 := by omega
    have hN := hs.act ((IntKind.i64.wrap (kd.tmod 6 + 6)).tmod 6) (cy % 300) (ad % 1024) b3 b4
    obtain ⟨s2, hs2⟩ : ∃ s2, s2 = rsDo s ((IntKind.i64.wrap (kd.tmod 6 + 6)).tmod 6) (cy % 300) (ad % 1024) v u := ⟨_, rfl⟩
    rw [← hs2] at hN
    conv => whnf
    refine Req.of ?_ ?_
    · (clear hR; simp; omega)
    conv => whnf
    refine slc_ex i 0 hlt (by decide) (by rw [hEi]; rfl) (by first | omega | (simp; done)) ?_
    conv => whnf
    refine slc_ex i 1 hlt (by decide) (by rw [hEi]; rfl) (by first | omega | (simp; done)) ?_
    conv => whnf
    refine slc_ex i 2 hlt (by decide) (by rw [hEi]; rfl) (by first | omega | (simp; done)) ?_
    conv => whnf
    refine slc_ex i 3 hlt (by decide) (by rw [hEi]; rfl) (by first | omega | (simp; done)) ?_
    conv => whnf
    refine slc_ex i 4 hlt (by decide) (by rw [hEi]; rfl) (by first | omega | (simp; done)) ?_
    conv => whnf
    rw [hmir]
    conv => whnf
    refine Req.of ?_ ?_
    · (clear hR; simp; omega)
    conv => whnf
    refine slc_ex i 0 hlt (by decide) (by rw [hEi]; rfl) (by first | omega | (simp; done)) ?_
    conv => whnf
    refine slc_ex i 1 hlt (by decide) (by rw [hEi]; rfl) (by first | omega | (simp; done)) ?_
    conv => whnf
    refine slc_ex i 2 hlt (by decide) (by rw [hEi]; rfl) (by first | omega | (simp; done)) ?_
    conv => whnf
    refine slc_ex i 3 hlt (by decide) (by rw [hEi]; rfl) (by first | omega | (simp; done)) ?_
    conv => whnf
    refine slc_ex i 4 hlt (by decide) (by rw [hEi]; rfl) (by first | omega | (simp; done)) ?_
    conv => whnf
    refine ACalls.useE (didS s hs _ _ _ _ _ b1 b2 b3 b4) [1, 2, 3, 4, 5] rfl (by (conv => whnf); first | done | rfl | (refine renL_riot hs.L rfl ?_; (conv => whnf); first | done | rfl)) (by (conv => whnf); try rfl) ?_
    conv => whnf
    rw [← hs2]
    conv => whnf
    refine renL_riot hN.L rfl ?_
    conv => whnf
    refine ⟨rfl, ?_⟩
    conv => whnf
    refine ACalls.useE (didS s hs _ _ _ _ _ b1 had2 b3 b4) [6, 7, 8, 9, 10] rfl (by (conv => whnf); first | done | rfl | (refine renL_riot hs.L rfl ?_; (conv => whnf); first | done | rfl)) (by (conv => whnf); try rfl) ?_
    conv => whnf
    rw [hmod]
    conv => whnf
    rw [← hs2]
    conv => whnf
    refine renL_riot hN.L rfl ?_
    conv => whnf
    refine Bif.knF ?_ fun h0 => ?_
    · (clear hR; simp; done)
    conv => whnf
    (rw [e2]; exact hR (i + 1, ⟨s2, hN⟩) _ _ _ rfl rfl hlt (by show len - (i + 1) < len - i; omega))
  · clear hR
    conv => whnf
    refine ACalls.useX (riot_words s hs) [1, 2, 3, 4, 5] rfl (by (conv => whnf); first | done | rfl | (refine renL_row ?_; (conv => whnf); refine renL_row ?_; (conv => whnf); first | done | rfl) | (refine renL_riot hs.L rfl ?_; (conv => whnf); first | done | rfl)) (by (conv => whnf); try rfl) ?_
    intro nx0 hx0
    conv => whnf
    refine renL_riot hs.L rfl ?_
    conv => whnf
    refine renL_row ?_
    conv => whnf
    refine ACalls.useX (riot_words s hs) [6, 7, 8, 9, 10] rfl (by (conv => whnf); first | done | rfl | (refine renL_row ?_; (conv => whnf); refine renL_row ?_; (conv => whnf); first | done | rfl) | (refine renL_riot hs.L rfl ?_; (conv => whnf); first | done | rfl)) (by (conv => whnf); try rfl) ?_
    intro nx1 hx1
    conv => whnf
    refine renL_riot hs.L rfl ?_
    conv => whnf
    refine renL_row ?_
    conv => whnf
    refine ACalls.useE (ref_same (wdS s) (wdS s) 142 nx0 nx1 (by decide) hx0 hx1 (fun _ _ => rfl)) [11, 12] rfl (by (conv => whnf); first | done | rfl | (refine renL_row ?_; (conv => whnf); refine renL_row ?_; (conv => whnf); first | done | rfl) | (refine renL_riot hs.L rfl ?_; (conv => whnf); first | done | rfl)) (by (conv => whnf); try rfl) ?_
    conv => whnf
    refine renL_row ?_
    conv => whnf
    refine renL_row ?_
    conv => whnf
    refine ACalls.useE (awake08) [] rfl (by (conv => whnf); first | done | rfl | (refine renL_row ?_; (conv => whnf); refine renL_row ?_; (conv => whnf); first | done | rfl) | (refine renL_riot hs.L rfl ?_; (conv => whnf); first | done | rfl)) (by (conv => whnf); try rfl) ?_
    conv => whnf
    refine ⟨rfl, ?_⟩
    conv => whnf
theorem walk_RiotMirrors_nil (h : Int) (wh : (Lit.int .u8 h).wf = true) : ACalls Try.prog 11 [.slice none 0 0, .int .u8 h] [] fun v _ => v = .bool true := by
  refine ACalls.code tabOk h11 Try.func11 Try.call11 ok11 ?_
  conv => whnf
  refine ACalls.useX riot_new0 [] rfl (by (conv => whnf); try rfl) (by (conv => whnf); try rfl) ?_
  rintro L ⟨hL, hz⟩
  conv => whnf
  refine renL_riot hL rfl ?_
  conv => whnf
  refine ACalls.useX riot_new0 [] rfl (by (conv => whnf); try rfl) (by (conv => whnf); try rfl) ?_
  rintro M ⟨hM, hzM⟩
  obtain rfl : L = M := ram_ext hL hM fun j hj => by rw [hz j hj, hzM j hj]
  conv => whnf
  refine renL_riot hL rfl ?_
  have hs : (rs0 L).Ok := rs0_ok hL
  obtain ⟨s, e0⟩ : ∃ s, s = rs0 L := ⟨_, rfl⟩
  rw [← e0] at hs
  conv => whnf
  refine ALoop.run 1 ?_
  conv => whnf
  refine ACalls.useX (riot_words s hs) [0, 1, 2, 3, 4] rfl (by (conv => whnf); first | done | rfl | (refine renL_row ?_; (conv => whnf); refine renL_row ?_; (conv => whnf); first | done | rfl) | (subst e0; refine renL_riot hs.L rfl ?_; (conv => whnf); first | done | rfl)) (by (conv => whnf); try rfl) ?_
  intro nx0 hx0
  conv => whnf
  refine renL_riot hs.L rfl ?_
  conv => whnf
  refine renL_row ?_
  conv => whnf
  refine ACalls.useX (riot_words s hs) [5, 6, 7, 8, 9] rfl (by (conv => whnf); first | done | rfl | (refine renL_row ?_; (conv => whnf); refine renL_row ?_; (conv => whnf); first | done | rfl) | (subst e0; refine renL_riot hs.L rfl ?_; (conv => whnf); first | done | rfl)) (by (conv => whnf); try rfl) ?_
  intro nx1 hx1
  conv => whnf
  refine renL_riot hs.L rfl ?_
  conv => whnf
  refine renL_row ?_
  conv => whnf
  refine ACalls.useE (ref_same (wdS s) (wdS s) 142 nx0 nx1 (by decide) hx0 hx1 (fun _ _ => rfl)) [10, 11] rfl (by (conv => whnf); first | done | rfl | (refine renL_row ?_; (conv => whnf); refine renL_row ?_; (conv => whnf); first | done | rfl) | (subst e0; refine renL_riot hs.L rfl ?_; (conv => whnf); first | done | rfl)) (by (conv => whnf); try rfl) ?_
  conv => whnf
  refine renL_row ?_
  conv => whnf
  refine renL_row ?_
  conv => whnf
  refine ACalls.useE (awake08) [] rfl (by (conv => whnf); first | done | rfl | (refine renL_row ?_; (conv => whnf); refine renL_row ?_; (conv => whnf); first | done | rfl) | (subst e0; refine renL_riot hs.L rfl ?_; (conv => whnf); first | done | rfl)) (by (conv => whnf); try rfl) ?_
  conv => whnf
end Go.Proofs
