/-
  Walks through the functions of the program, by contract.
-/
import Derived.Test.YtbngapokpmifnaaRiot2F
set_option linter.all false
set_option linter.unusedVariables false
set_option linter.unusedSimpArgs false
set_option linter.unnecessarySimpa false
namespace Go.Proofs
open Go.Aw
set_option maxRecDepth 100000
set_option maxHeartbeats 8000000
/-- What a riot has. -/
structure RS where
  L : List Value
  i0 : Int
  o0 : Int
  w0 : Int
  i1 : Int
  o1 : Int
  w1 : Int
  tm : TM
  el : Bool
  er : Bool
  ec : Bool
def rsHeap (s : RS) : List Blk := [.cells (riotC s.L (.pointer (some ⟨1, 0, none⟩)) (.pointer (some ⟨2, 0, none⟩)) (.pointer (some ⟨3, 0, none⟩)) (.pointer (some ⟨4, 0, none⟩))) 110, .cells [.int .u8 s.i0, .int .u8 s.o0, .int .u8 s.w0] 97, .cells [.int .u8 s.i1, .int .u8 s.o1, .int .u8 s.w1] 97, s.tm.blk, .cells [.bool s.el, .bool s.er, .bool s.ec] 99]
def byt (n : Int) : Prop := 0 ≤ n ∧ n ≤ 255
structure RS.Ok (s : RS) : Prop where
  L : Ram s.L
  p0 : (0 ≤ s.i0 ∧ s.i0 ≤ 255) ∧ (0 ≤ s.o0 ∧ s.o0 ≤ 255) ∧ (0 ≤ s.w0 ∧ s.w0 ≤ 255)
  p1 : (0 ≤ s.i1 ∧ s.i1 ≤ 255) ∧ (0 ≤ s.o1 ∧ s.o1 ≤ 255) ∧ (0 ≤ s.w1 ∧ s.w1 ≤ 255)
  tm : s.tm.ok
@[irreducible] def rsTick (s : RS) : RS := { s with tm := s.tm.tick, el := lv7 s.i0 s.o0 s.w0, ec := seeB s.el s.er s.ec (lv7 s.i0 s.o0 s.w0) }
@[irreducible] def rsIn (s : RS) (x y : Int) : RS := { s with i0 := x, i1 := y }
@[irreducible] def rsStore (s : RS) (a x : Int) : RS :=
  if a / 512 % 2 = 0 then { s with L := wr s.L (a % 128).toNat x }
  else if a / 4 % 2 = 1 then (if a / 16 % 2 = 1 then { s with tm := ⟨x, ivl (a % 4), 1, false, false⟩ } else if a % 2 = 1 then { s with er := true } else { s with er := false })
  else if a % 2 = 1 then (if a / 2 % 2 = 0 then { s with w0 := x } else { s with w1 := x })
  else (if a / 2 % 2 = 0 then { s with o0 := x } else { s with o1 := x })
@[irreducible] def rsRead (s : RS) (a : Int) : RS :=
  if a / 512 % 2 = 0 then s
  else if a / 4 % 2 = 1 then (if a % 2 = 1 then { s with ec := false } else { s with tm := s.tm.read })
  else s
@[irreducible] def rsOut (s : RS) (a : Int) : Int :=
  if a / 512 % 2 = 0 then rd s.L (a % 128).toNat
  else if a / 4 % 2 = 1 then (if a % 2 = 1 then flg s.tm.fl s.ec else s.tm.v)
  else if a % 2 = 1 then (if a / 2 % 2 = 0 then s.w0 else s.w1)
  else (if a / 2 % 2 = 0 then lv s.i0 s.o0 s.w0 else lv s.i1 s.o1 s.w1)
theorem ivl_ok (n : Int) : ivl n = 1 ∨ ivl n = 8 ∨ ivl n = 64 ∨ ivl n = 1024 := by unfold ivl; split <;> (try split) <;> (try split) <;> simp
theorem RS.Ok.tick {s : RS} (h : s.Ok) : (rsTick s).Ok := by unfold rsTick; exact ⟨h.L, h.p0, h.p1, TM.tick_ok h.tm⟩
theorem RS.Ok.inp {s : RS} (h : s.Ok) {x y : Int} (hx : 0 ≤ x ∧ x ≤ 255) (hy : 0 ≤ y ∧ y ≤ 255) : (rsIn s x y).Ok := by unfold rsIn; exact ⟨h.L, ⟨hx, h.p0.2⟩, ⟨hy, h.p1.2⟩, h.tm⟩
theorem RS.Ok.store {s : RS} (h : s.Ok) (a : Int) {x : Int} (hx : 0 ≤ x ∧ x ≤ 255) : (rsStore s a x).Ok := by
  have hv := ivl_ok (a % 4)
  unfold rsStore
  split
  · exact ⟨h.L.wr (by omega) hx, h.p0, h.p1, h.tm⟩
  · split
    · split
      · exact ⟨h.L, h.p0, h.p1, hx, hv, by dsimp only; omega⟩
      · split <;> exact ⟨h.L, h.p0, h.p1, h.tm⟩
    · split
      · split
        · exact ⟨h.L, ⟨h.p0.1, h.p0.2.1, hx⟩, h.p1, h.tm⟩
        · exact ⟨h.L, h.p0, ⟨h.p1.1, h.p1.2.1, hx⟩, h.tm⟩
      · split
        · exact ⟨h.L, ⟨h.p0.1, hx, h.p0.2.2⟩, h.p1, h.tm⟩
        · exact ⟨h.L, h.p0, ⟨h.p1.1, hx, h.p1.2.2⟩, h.tm⟩
theorem RS.Ok.read {s : RS} (h : s.Ok) (a : Int) : (rsRead s a).Ok := by
  unfold rsRead
  split
  · exact h
  · split
    · split
      · exact ⟨h.L, h.p0, h.p1, h.tm⟩
      · exact ⟨h.L, h.p0, h.p1, TM.read_ok h.tm⟩
    · exact h
/-! An address's bits -/
theorem and_nat16 {a b : Nat} (ha : a < 2 ^ 16) (hb : b < 2 ^ 16) : bits .and .u16 (a : Int) (b : Int) = ((a &&& b : Nat) : Int) := by
  have h1 : ∀ x : Nat, x < 2 ^ 16 → (BitVec.ofInt IntKind.u16.bits (x : Int)).toNat = x := fun x hx => by
    rw [BitVec.toNat_ofInt]
    rw [Int.emod_eq_of_lt (Int.natCast_nonneg _) (by exact_mod_cast hx)]
    rfl
  show IntKind.u16.wrap ((BitVec.ofInt IntKind.u16.bits (a : Int) &&& BitVec.ofInt IntKind.u16.bits (b : Int)).toNat : Int) = _
  have h2 : a &&& b ≤ a := Nat.and_le_left
  rw [BitVec.toNat_and, h1 a ha, h1 b hb, wrap16 (by omega) (by omega)]
theorem and_two (m j : Nat) : m &&& 2 ^ j = m / 2 ^ j % 2 * 2 ^ j := by
  have e : m &&& 2 ^ j = if m.testBit j then 2 ^ j else 0 := by
    apply Nat.eq_of_testBit_eq
    intro i
    rw [Nat.testBit_and, Nat.testBit_two_pow]
    by_cases h : j = i
    · subst h
      cases hb : m.testBit j
      · simp
      · simp
    · cases hb : m.testBit j
      · simp [h]
      · simp [h]
  rw [e, Nat.testBit_eq_decide_div_mod_eq]
  have h2 : m / 2 ^ j % 2 = 0 ∨ m / 2 ^ j % 2 = 1 := by omega
  rcases h2 with h2 | h2 <;> rw [h2] <;> simp
theorem and_bit16 {n : Int} (h : 0 ≤ n ∧ n ≤ 65535) (j : Nat) (hj : j < 16) : bits .and .u16 n (2 ^ j) = n / 2 ^ j % 2 * 2 ^ j := by
  obtain ⟨m, rfl⟩ : ∃ m : Nat, n = m := ⟨n.toNat, by omega⟩
  have hp : 2 ^ j < 2 ^ 16 := Nat.pow_lt_pow_right (by decide) hj
  have e : ((2 ^ j : Nat) : Int) = 2 ^ j := by simp
  rw [← e, and_nat16 (by omega) hp, and_two]
  simp
theorem bit9 {n : Int} (h : 0 ≤ n ∧ n ≤ 65535) : bits .and .u16 n 512 = n / 512 % 2 * 512 := and_bit16 h 9 (by decide)
theorem bit2 {n : Int} (h : 0 ≤ n ∧ n ≤ 65535) : bits .and .u16 n 4 = n / 4 % 2 * 4 := and_bit16 h 2 (by decide)
theorem bit4 {n : Int} (h : 0 ≤ n ∧ n ≤ 65535) : bits .and .u16 n 16 = n / 16 % 2 * 16 := and_bit16 h 4 (by decide)
theorem bit0 (n : Int) : bits .and .u16 n 1 = n % 2 := and_mask .u16 n 1 (by decide)
theorem bit1 {n : Int} (h : 0 ≤ n ∧ n ≤ 65535) : bits .and .u16 (n.fdiv (2 ^ min (1 : Int).toNat IntKind.u16.bits)) 1 = n / 2 % 2 := by
  have e : (2 : Int) ^ min (1 : Int).toNat IntKind.u16.bits = 2 := by decide
  rw [e, bit0, Int.fdiv_eq_ediv_of_nonneg _ (by decide)]
theorem riot_tickS (s : RS) (hs : s.Ok) : ACalls Try.prog 59 [.pointer (some ⟨0, 0, none⟩)] (rsHeap s) fun r H => r = .tuple #[] ∧ H = rsHeap (rsTick s) := by
  unfold rsTick
  exact riot_tick s.L hs.L s.i0 s.o0 s.w0 s.i1 s.o1 s.w1 s.tm.v s.tm.iv s.tm.l s.tm.fa s.tm.fl s.el s.er s.ec hs.p0
theorem riot_inS (s : RS) (hs : s.Ok) (x y : Int) : ACalls Try.prog 60 [.pointer (some ⟨0, 0, none⟩), .int .u8 x, .int .u8 y] (rsHeap s) fun r H => r = .tuple #[] ∧ H = rsHeap (rsIn s x y) := by
  unfold rsIn
  exact riot_in s.L hs.L s.i0 s.o0 s.w0 s.i1 s.o1 s.w1 s.tm.v s.tm.iv s.tm.l s.tm.fa s.tm.fl s.el s.er s.ec x y
theorem riot_storeS (s : RS) (hs : s.Ok) (ad x : Int) (had : 0 ≤ ad ∧ ad ≤ 65535) (hx : 0 ≤ x ∧ x ≤ 255) : ACalls Try.prog 61 [.pointer (some ⟨0, 0, none⟩), .int .u16 ad, .int .u8 x] (rsHeap s) fun r H => r = .tuple #[] ∧ H = rsHeap (rsStore s (ad % 1024) x) := by
  have q9 := bit9 had
  have q2 := bit2 had
  have q4 := bit4 had
  have q0 := bit0 ad
  have q1 := bit1 had
  unfold rsStore
  by_cases c9 : ad / 512 % 2 = 0
  · rw [if_pos (show ad % 1024 / 512 % 2 = 0 by omega), show (ad % 1024 % 128).toNat = (ad % 128).toNat by omega]
    exact riot_store_ram s.L hs.L s.i0 s.o0 s.w0 s.i1 s.o1 s.w1 s.tm.v s.tm.iv s.tm.l s.tm.fa s.tm.fl s.el s.er s.ec x hx ad had (by omega)
  · rw [if_neg (show ¬ ad % 1024 / 512 % 2 = 0 by omega)]
    by_cases c2 : ad / 4 % 2 = 1
    · rw [if_pos (show ad % 1024 / 4 % 2 = 1 by omega)]
      by_cases c4 : ad / 16 % 2 = 1
      · rw [if_pos (show ad % 1024 / 16 % 2 = 1 by omega), show ad % 1024 % 4 = ad % 4 by omega]
        exact riot_store_timer s.L hs.L s.i0 s.o0 s.w0 s.i1 s.o1 s.w1 s.tm.v s.tm.iv s.tm.l s.tm.fa s.tm.fl s.el s.er s.ec x ad had (by omega) (by omega) (by omega)
      · rw [if_neg (show ¬ ad % 1024 / 16 % 2 = 1 by omega)]
        by_cases c0 : ad % 2 = 1
        · rw [if_pos (show ad % 1024 % 2 = 1 by omega)]
          exact riot_store_edge1 s.L hs.L s.i0 s.o0 s.w0 s.i1 s.o1 s.w1 s.tm.v s.tm.iv s.tm.l s.tm.fa s.tm.fl s.el s.er s.ec x ad had (by omega) (by omega) (by omega) (by omega)
        · rw [if_neg (show ¬ ad % 1024 % 2 = 1 by omega)]
          exact riot_store_edge0 s.L hs.L s.i0 s.o0 s.w0 s.i1 s.o1 s.w1 s.tm.v s.tm.iv s.tm.l s.tm.fa s.tm.fl s.el s.er s.ec x ad had (by omega) (by omega) (by omega) (by omega)
    · rw [if_neg (show ¬ ad % 1024 / 4 % 2 = 1 by omega)]
      by_cases c0 : ad % 2 = 1
      · rw [if_pos (show ad % 1024 % 2 = 1 by omega)]
        by_cases c1 : ad / 2 % 2 = 0
        · rw [if_pos (show ad % 1024 / 2 % 2 = 0 by omega)]
          exact riot_store_way0 s.L hs.L s.i0 s.o0 s.w0 s.i1 s.o1 s.w1 s.tm.v s.tm.iv s.tm.l s.tm.fa s.tm.fl s.el s.er s.ec x ad had (by omega) (by omega) (by omega) (by omega)
        · rw [if_neg (show ¬ ad % 1024 / 2 % 2 = 0 by omega)]
          exact riot_store_way1 s.L hs.L s.i0 s.o0 s.w0 s.i1 s.o1 s.w1 s.tm.v s.tm.iv s.tm.l s.tm.fa s.tm.fl s.el s.er s.ec x ad had (by omega) (by omega) (by omega) (by omega)
      · rw [if_neg (show ¬ ad % 1024 % 2 = 1 by omega)]
        by_cases c1 : ad / 2 % 2 = 0
        · rw [if_pos (show ad % 1024 / 2 % 2 = 0 by omega)]
          exact riot_store_out0 s.L hs.L s.i0 s.o0 s.w0 s.i1 s.o1 s.w1 s.tm.v s.tm.iv s.tm.l s.tm.fa s.tm.fl s.el s.er s.ec x ad had (by omega) (by omega) (by omega) (by omega)
        · rw [if_neg (show ¬ ad % 1024 / 2 % 2 = 0 by omega)]
          exact riot_store_out1 s.L hs.L s.i0 s.o0 s.w0 s.i1 s.o1 s.w1 s.tm.v s.tm.iv s.tm.l s.tm.fa s.tm.fl s.el s.er s.ec x ad had (by omega) (by omega) (by omega) (by omega)
theorem riot_readS (s : RS) (hs : s.Ok) (ad : Int) (had : 0 ≤ ad ∧ ad ≤ 65535) : ACalls Try.prog 62 [.pointer (some ⟨0, 0, none⟩), .int .u16 ad] (rsHeap s) fun r H => r = .int .u8 (rsOut s (ad % 1024)) ∧ H = rsHeap (rsRead s (ad % 1024)) := by
  have q9 := bit9 had
  have q2 := bit2 had
  have q0 := bit0 ad
  have q1 := bit1 had
  unfold rsOut rsRead
  by_cases c9 : ad / 512 % 2 = 0
  · rw [if_pos (show ad % 1024 / 512 % 2 = 0 by omega), if_pos (show ad % 1024 / 512 % 2 = 0 by omega), show (ad % 1024 % 128).toNat = (ad % 128).toNat by omega]
    exact riot_read_ram s.L hs.L s.i0 s.o0 s.w0 s.i1 s.o1 s.w1 s.tm.v s.tm.iv s.tm.l s.tm.fa s.tm.fl s.el s.er s.ec ad had (by omega)
  · rw [if_neg (show ¬ ad % 1024 / 512 % 2 = 0 by omega), if_neg (show ¬ ad % 1024 / 512 % 2 = 0 by omega)]
    by_cases c2 : ad / 4 % 2 = 1
    · rw [if_pos (show ad % 1024 / 4 % 2 = 1 by omega), if_pos (show ad % 1024 / 4 % 2 = 1 by omega)]
      by_cases c0 : ad % 2 = 1
      · rw [if_pos (show ad % 1024 % 2 = 1 by omega), if_pos (show ad % 1024 % 2 = 1 by omega)]
        exact riot_read_flags s.L hs.L s.i0 s.o0 s.w0 s.i1 s.o1 s.w1 s.tm.v s.tm.iv s.tm.l s.tm.fa s.tm.fl s.el s.er s.ec ad had (by omega) (by omega) (by omega)
      · rw [if_neg (show ¬ ad % 1024 % 2 = 1 by omega), if_neg (show ¬ ad % 1024 % 2 = 1 by omega)]
        exact riot_read_timer s.L hs.L s.i0 s.o0 s.w0 s.i1 s.o1 s.w1 s.tm.v s.tm.iv s.tm.l s.tm.fa s.tm.fl s.el s.er s.ec ad had (by omega) (by omega) (by omega)
    · rw [if_neg (show ¬ ad % 1024 / 4 % 2 = 1 by omega), if_neg (show ¬ ad % 1024 / 4 % 2 = 1 by omega)]
      by_cases c0 : ad % 2 = 1
      · rw [if_pos (show ad % 1024 % 2 = 1 by omega)]
        by_cases c1 : ad / 2 % 2 = 0
        · rw [if_pos (show ad % 1024 / 2 % 2 = 0 by omega)]
          exact riot_read_ways0 s.L hs.L s.i0 s.o0 s.w0 s.i1 s.o1 s.w1 s.tm.v s.tm.iv s.tm.l s.tm.fa s.tm.fl s.el s.er s.ec ad had (by omega) (by omega) (by omega) (by omega)
        · rw [if_neg (show ¬ ad % 1024 / 2 % 2 = 0 by omega)]
          exact riot_read_ways1 s.L hs.L s.i0 s.o0 s.w0 s.i1 s.o1 s.w1 s.tm.v s.tm.iv s.tm.l s.tm.fa s.tm.fl s.el s.er s.ec ad had (by omega) (by omega) (by omega) (by omega)
      · rw [if_neg (show ¬ ad % 1024 % 2 = 1 by omega)]
        by_cases c1 : ad / 2 % 2 = 0
        · rw [if_pos (show ad % 1024 / 2 % 2 = 0 by omega)]
          exact riot_read_level0 s.L hs.L s.i0 s.o0 s.w0 s.i1 s.o1 s.w1 s.tm.v s.tm.iv s.tm.l s.tm.fa s.tm.fl s.el s.er s.ec hs.p0 ad had (by omega) (by omega) (by omega) (by omega)
        · rw [if_neg (show ¬ ad % 1024 / 2 % 2 = 0 by omega)]
          exact riot_read_level1 s.L hs.L s.i0 s.o0 s.w0 s.i1 s.o1 s.w1 s.tm.v s.tm.iv s.tm.l s.tm.fa s.tm.fl s.el s.er s.ec hs.p1 ad had (by omega) (by omega) (by omega) (by omega)
def rs0 (L : List Value) : RS := ⟨L, 255, 0, 0, 255, 0, 0, ⟨255, 1024, 1, false, false⟩, true, false, false⟩
theorem rs0_ok {L : List Value} (h : Ram L) : (rs0 L).Ok := ⟨h, (by decide : ((0 : Int) ≤ 255 ∧ (255 : Int) ≤ 255) ∧ ((0 : Int) ≤ 0 ∧ (0 : Int) ≤ 255) ∧ ((0 : Int) ≤ 0 ∧ (0 : Int) ≤ 255)), (by decide : ((0 : Int) ≤ 255 ∧ (255 : Int) ≤ 255) ∧ ((0 : Int) ≤ 0 ∧ (0 : Int) ≤ 255) ∧ ((0 : Int) ≤ 0 ∧ (0 : Int) ≤ 255)), ⟨(by decide : (0 : Int) ≤ 255 ∧ (255 : Int) ≤ 255), .inr (.inr (.inr rfl)), (by decide : (1 : Int) ≤ 1 ∧ (1 : Int) ≤ 1024)⟩⟩
theorem riot_newS (L : List Value) (hL : Ram L) : ACalls Try.prog 48 [.agg L.toArray] [] fun v H => v = .pointer (some ⟨0, 0, none⟩) ∧ H = rsHeap (rs0 L) := riot_new L hL
theorem riot_new0 : ACalls Try.prog 48 [.agg (List.replicate 128 (.int .u8 0)).toArray] [] fun v H => ∃ L, (Ram L ∧ ∀ j, j < 128 → rd L j = 0) ∧ v = .pointer (some ⟨0, 0, none⟩) ∧ H = rsHeap (rs0 L) := by
  refine (riot_newS _ Ram.zero).imp fun v H h => ⟨_, ⟨Ram.zero, fun j hj => ?_⟩, h.1, h.2⟩
  have h1 := Ram.zero.at hj
  rw [List.getElem?_replicate, if_pos hj] at h1
  simpa using h1.symm
/-- A riot's heap under other names. -/
theorem hat_riot {s : RS} (hs : s.Ok) {τ : List Nat} {k : List Value → Prop} {p' q' c' e' : Value} (h : renL (renV 6 τ) [.pointer (some ⟨1, 0, none⟩), .pointer (some ⟨2, 0, none⟩), .pointer (some ⟨3, 0, none⟩), .pointer (some ⟨4, 0, none⟩)] fun l => l = [p', q', c', e']) (hk : k (riotC s.L p' q' c' e')) : renL (renV 6 τ) (riotC s.L (.pointer (some ⟨1, 0, none⟩)) (.pointer (some ⟨2, 0, none⟩)) (.pointer (some ⟨3, 0, none⟩)) (.pointer (some ⟨4, 0, none⟩))) k := renL_riot hs.L h hk
end Go.Proofs
