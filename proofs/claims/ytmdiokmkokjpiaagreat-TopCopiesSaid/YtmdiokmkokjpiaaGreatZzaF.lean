/-
  Walks through the functions of the program, by contract.
-/
import Derived.Test.YtmdiokmkokjpiaaGreatZzF
set_option linter.all false
set_option linter.unusedVariables false
set_option linter.unusedSimpArgs false
set_option linter.unnecessarySimpa false
namespace Go.Proofs
open Go.Aw
set_option maxRecDepth 100000
set_option maxHeartbeats 8000000
theorem wF_iff (k P : Nat) (g : Int) (j : Nat) : ∀ c, wF k P g c j = true ↔ ∃ e, e < c ∧ graphI g false (wdN k : Nat) (e % (8 * wdN k) : Nat) = true ∧ j = (P + cpN k (e / (8 * wdN k)) + ldN k + e % (8 * wdN k)) % 160
  | 0 => by
    constructor
    · intro h; cases h
    · rintro ⟨e, h, _⟩; omega
  | c + 1 => by
    rw [wF, Bool.or_eq_true, wF_iff k P g j c, Bool.and_eq_true, decide_eq_true_iff]
    constructor
    · rintro (⟨e, he, h⟩ | h)
      · exact ⟨e, by omega, h⟩
      · exact ⟨c, by omega, h⟩
    · rintro ⟨e, he, h⟩
      by_cases hc : e = c
      · subst hc; exact .inr h
      · exact .inl ⟨e, by omega, h⟩
theorem cpN_mem (k i : Nat) (h : i < (cpL k).length) : cpN k i ∈ cpL k := by
  unfold cpN
  rw [List.getD_eq_getElem?_getD, List.getElem?_eq_getElem h]
  exact List.getElem_mem h
theorem mem_cpN {k v : Nat} (h : v ∈ cpL k) : ∃ i, i < (cpL k).length ∧ cpN k i = v := by
  obtain ⟨i, hi, e⟩ := List.getElem_of_mem h
  refine ⟨i, hi, ?_⟩
  unfold cpN
  rw [List.getD_eq_getElem?_getD, List.getElem?_eq_getElem hi]
  exact e
/-- The pixels that are wanted are those that the thing shows. -/
theorem want_law (k P : Nat) (g : Int) (hP : P < 160) (x : Nat) (hx : x < 160) (n : Nat) (hn : n = 640 + x - P) : wantB k g (n % 160) = wI k P g ((cpL k).length * (8 * wdN k)) x := by
  have hw := wdN_pos k
  unfold wI
  rw [Bool.eq_iff_iff, wF_iff]
  unfold wantB
  simp only [List.any_eq_true, List.mem_range, Bool.and_eq_true, decide_eq_true_iff]
  generalize hm : 8 * wdN k = m at *
  constructor
  · rintro ⟨v, hv, d, hd, he, hg⟩
    obtain ⟨i, hi, hiv⟩ := mem_cpN hv
    have h1 : (m * i + d) % m = d := by rw [Nat.mul_add_mod]; exact Nat.mod_eq_of_lt hd
    have h2 : (m * i + d) / m = i := by rw [Nat.mul_add_div (by omega), Nat.div_eq_of_lt hd, Nat.add_zero]
    refine ⟨m * i + d, ?_, ?_, ?_⟩
    · calc m * i + d < m * i + m := by omega
        _ = (i + 1) * m := by rw [Nat.mul_comm, Nat.succ_mul]
        _ ≤ (cpL k).length * m := Nat.mul_le_mul_right _ hi
    · rw [h1]; exact hg
    · rw [h1, h2, hiv]; omega
  · rintro ⟨e, he, hg, hj⟩
    have h2 : e / m < (cpL k).length := Nat.div_lt_of_lt_mul (by rw [Nat.mul_comm]; exact he)
    exact ⟨cpN k (e / m), cpN_mem k _ h2, e % m, Nat.mod_lt _ (by omega), by omega, hg⟩
theorem copies_px (s : TS) (hs : s.Top) (k P : Nat) (h8 : k < 8) (hP : P < 160) (g u : Int) (hk : u % 8 = (k : Int)) (hc : s.c = 68 + P) (h4 : rg s.L 4 = u) (h6 : rg s.L 6 = 68) (hz : ∀ j, j = 9 ∨ j = 10 ∨ j = 13 ∨ j = 14 ∨ j = 15 → rg s.L j = 0) (g0 : s.g00 = g) (g1 : s.g10 = 0) (t0 : s.t0 = t00) (x : Nat) (hx : x < 160) : shP (stpI 456 s) x = if wI k P g ((cpL k).length * (8 * wdN k)) x = true then 68 else 0 := by
  have hz2 := stpI_top hs 456
  obtain ⟨e, hcx⟩ := shP_at (stpI 456 s) hz2 x hx
  rw [e]
  have ecc : (stpI 456 s).c = 68 + P := by rw [stpI_c s hs.c, hc]; omega
  rw [ecc, stpI_eq, stpN_add] at hcx ⊢
  have hT : (stpN (456 + (shN (68 + P) + 68 + x)) s).t0 = thN (k : Nat) (640 + x - P) t00 := by
    rw [stpN_t0 s hs, h4, t0, thN_mod, hk, hc]
    congr 1
    unfold visN shN
    omega
  generalize hq : stpN (456 + (shN (68 + P) + 68 + x)) s = q at *
  have hL : q.L = s.L := by rw [← hq, stpN_L]
  have hg0 : q.g00 = g := by rw [← hq, stpN_g00, g0]
  have b1 : plB1 q = false := plB1_zero (by rw [← hq, stpN_g10, g1])
  have b0 := plB0_law q k (640 + x - P) (by rw [hL, h4]; exact hk) h8 (by omega) hT
  rw [hg0, want_law k P g hP x hx _ rfl] at b0
  have hp : pfB q (x : Nat) = false := by
    unfold pfB
    rw [hL, hz 13 (by omega), hz 14 (by omega), hz 15 (by omega), hz 10 (by omega)]
    unfold litI fldI
    rw [revI_zero]
    split
    · rfl
    · unfold bitN; simp
  have hsn : snB q (x : Nat) = if wI k P g ((cpL k).length * (8 * wdN k)) x = true then 0 else 3 := by
    unfold snB
    rw [hp, b1, b0, hL, hz 10 (by omega)]
    cases wI k P g ((cpL k).length * (8 * wdN k)) x <;> cases decide (((x : Nat) : Int) < 80) <;> decide
  unfold pxI
  rw [hsn, hL]
  split
  · rw [show 6 + 0 = 6 from rfl, h6]; decide
  · rw [show 6 + 3 = 9 from rfl, hz 9 (by omega)]; decide
theorem walk_TopCopies (g u y : Int) (wg : (Lit.int .u8 g).wf = true) (wu : (Lit.int .u8 u).wf = true) (wy : (Lit.int .u8 y).wf = true) : ACalls Tryz.prog 4 [.int .u8 g, .int .u8 u, .int .u8 y] [] fun v _ => v = .bool true := by
  have hg := litF_byte wg
  have hu := litF_byte wu
  have hy := litF_byte wy
  obtain ⟨P, eP⟩ : ∃ P : Nat, P = (y % 160).toNat := ⟨_, rfl⟩
  have hP : P < 160 := by omega
  have ty : (IntKind.i64.wrap y).tmod 160 = (P : Int) := by rw [wrap64 (by omega) (by omega), Int.tmod_eq_emod_of_nonneg (by omega)]; omega
  have tu : (IntKind.i64.wrap u).tmod 8 = u % 8 := by rw [wrap64 (by omega) (by omega), Int.tmod_eq_emod_of_nonneg (by omega)]
  have s0 : (ts0 (68 + P) zeros).Top := ts0_top (by omega)
  have k0 : ACalls Tryz.prog 7 [.int .i64 ((68 + P : Nat) : Int)] [] fun v H => v = .pointer (some ⟨0, 0, none⟩) ∧ H = tsH (ts0 (68 + P) zeros) := tia_new0 (68 + P) (by omega)
  obtain ⟨a0, e0⟩ : ∃ a, a = ts0 (68 + P) zeros := ⟨_, rfl⟩
  rw [← e0] at s0 k0
  have k1 := sto_16 a0 s0
  obtain ⟨a1, e1⟩ : ∃ a, a = { a0 with t0 := ⟨0, a0.t0.ln, a0.t0.sc⟩ } := ⟨_, rfl⟩
  have s1 : a1.Top := by
    have h := s0
    rw [e1]
    exact ⟨⟨h.c, h.mc, h.mg, ⟨show 0 < 160 by decide, h.t0.ln, h.t0.sc⟩, h.t1, h.t2, h.t3, h.t4, h.q, h.L, h.g00, h.g01, h.g10, h.g11, h.met⟩, h.late, h.m, h.b0, h.b1, h.z⟩
  rw [← e1] at k1
  have k2 := sto_4 a1 s1 u hu
  obtain ⟨a2, e2⟩ : ∃ a, a = { a1 with L := wrg a1.L 4 u } := ⟨_, rfl⟩
  have s2 : a2.Top := by rw [e2]; exact s1.reg 4 hu (by omega)
  rw [← e2] at k2
  have k3 := sto_6 a2 s2 68 (by decide)
  obtain ⟨a3, e3⟩ : ∃ a, a = { a2 with L := wrg a2.L 6 68 } := ⟨_, rfl⟩
  have s3 : a3.Top := by rw [e3]; exact s2.reg 6 (by decide) (by omega)
  rw [← e3] at k3
  have k4 := sto_27 a3 s3 g hg
  obtain ⟨a4, e4⟩ : ∃ a, a = { a3 with g00 := g, g11 := a3.g10 } := ⟨_, rfl⟩
  have s4 : a4.Top := by
    have h := s3
    rw [e4]
    exact ⟨⟨h.c, h.mc, h.mg, h.t0, h.t1, h.t2, h.t3, h.t4, h.q, h.L, hg, h.g01, h.g10, h.g10, h.met⟩, h.late, h.m, h.b0, h.b1, h.z⟩
  rw [← e4] at k4
  have c4 : a4.c = 68 + P := by rw [e4, e3, e2, e1, e0]; rfl
  have G0 : a4.g00 = g := by rw [e4]
  have G1 : a4.g10 = 0 := by rw [e4, e3, e2, e1, e0]; rfl
  have T0 : a4.t0 = t00 := by rw [e4, e3, e2, e1, e0]; rfl
  have L0 : a0.L = zeros := by rw [e0]; rfl
  have L1 : a1.L = zeros := by rw [e1]; exact L0
  have L4 : ∀ j, j < 64 → rg a4.L j = if j = 6 then 68 else if j = 4 then u else 0 := by
    intro j hj
    have l4 : a4.L = a3.L := by rw [e4]
    have l3 : a3.L = wrg a2.L 6 68 := by rw [e3]
    have l2 : a2.L = wrg a1.L 4 u := by rw [e2]
    rw [l4, l3, rg_wr s2.L hj, l2, rg_wr s1.L hj, L1, rg_zeros]
  clear e0 e1 e2 e3 e4 L0 L1
  have s456 := stpI_top s4 456
  have k5 := tshown (stpI 456 a4) s456
  obtain ⟨a5, e5⟩ : ∃ a, a = stpN (shN (stpI 456 a4).c + 228) (stpI 456 a4) := ⟨_, rfl⟩
  have s5 : a5.Top := by rw [e5]; exact stpN_top s456 _
  rw [← e5] at k5
  have hpx : ∀ k : Nat, k < 8 → u % 8 = (k : Int) → ∀ x, x < 160 → shP (stpI 456 a4) x = if wI k P g ((cpL k).length * (8 * wdN k)) x = true then 68 else 0 := fun k h8 hk x hx =>
    copies_px a4 s4 k P h8 hP g u hk c4 (by rw [L4 4 (by decide), if_neg (by decide), if_pos rfl]) (by rw [L4 6 (by decide), if_pos rfl]) (fun j hj => by rw [L4 j (by omega), if_neg (by omega), if_neg (by omega)]) G0 G1 T0 x hx
  have hcases : u % 8 = 0 ∨ u % 8 = 1 ∨ u % 8 = 2 ∨ u % 8 = 3 ∨ u % 8 = 4 ∨ u % 8 = 5 ∨ u % 8 = 6 ∨ u % 8 = 7 := by omega
  have hA : (rowL .u8 (shP (stpI 456 a4)) 160).toArray.toList = rowL .u8 (shP (stpI 456 a4)) 160 := rfl
  rcases hcases with h | h | h | h | h | h | h | h
  · exact tcop_0 g u y hg (tu.trans h) P hP ty a0 a1 a2 a3 a4 a5 s0 s1 s2 s3 s4 s5 _ _ hA k0 k1 k2 k3 k4 k5 (hpx 0 (by decide) h)
  · exact tcop_1 g u y hg (tu.trans h) P hP ty a0 a1 a2 a3 a4 a5 s0 s1 s2 s3 s4 s5 _ _ hA k0 k1 k2 k3 k4 k5 (hpx 1 (by decide) h)
  · exact tcop_2 g u y hg (tu.trans h) P hP ty a0 a1 a2 a3 a4 a5 s0 s1 s2 s3 s4 s5 _ _ hA k0 k1 k2 k3 k4 k5 (hpx 2 (by decide) h)
  · exact tcop_3 g u y hg (tu.trans h) P hP ty a0 a1 a2 a3 a4 a5 s0 s1 s2 s3 s4 s5 _ _ hA k0 k1 k2 k3 k4 k5 (hpx 3 (by decide) h)
  · exact tcop_4 g u y hg (tu.trans h) P hP ty a0 a1 a2 a3 a4 a5 s0 s1 s2 s3 s4 s5 _ _ hA k0 k1 k2 k3 k4 k5 (hpx 4 (by decide) h)
  · exact tcop_5 g u y hg (tu.trans h) P hP ty a0 a1 a2 a3 a4 a5 s0 s1 s2 s3 s4 s5 _ _ hA k0 k1 k2 k3 k4 k5 (hpx 5 (by decide) h)
  · exact tcop_6 g u y hg (tu.trans h) P hP ty a0 a1 a2 a3 a4 a5 s0 s1 s2 s3 s4 s5 _ _ hA k0 k1 k2 k3 k4 k5 (hpx 6 (by decide) h)
  · exact tcop_7 g u y hg (tu.trans h) P hP ty a0 a1 a2 a3 a4 a5 s0 s1 s2 s3 s4 s5 _ _ hA k0 k1 k2 k3 k4 k5 (hpx 7 (by decide) h)
end Go.Proofs
