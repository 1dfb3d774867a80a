/-
  Walks through the functions of the program, by contract.
-/
import Derived.Test.YtmdiokmkokjpiaaGreatCoreC
import Derived.CallsIn
import Derived.LoopNIn
import Derived.TacticsIn
import Derived.RangeFuncCalls
import Derived.RangeFuncRecord
set_option linter.all false
set_option linter.unusedVariables false
set_option linter.unusedSimpArgs false
set_option linter.unnecessarySimpa false
section
/-
  Eight-bit words: integers as bit vectors.
-/
namespace Go.Aw

theorem wf_u8 {a : Int} (h : (Lit.int .u8 a).wf = true) : 0 ≤ a ∧ a ≤ 255 := by
  simpa [Lit.wf, IntKind.min, IntKind.max, IntKind.signed, IntKind.bits] using h
theorem wf_u16 {a : Int} (h : (Lit.int .u16 a).wf = true) : 0 ≤ a ∧ a ≤ 65535 := by
  simpa [Lit.wf, IntKind.min, IntKind.max, IntKind.signed, IntKind.bits] using h
theorem wf_i64 {a : Int} (h : (Lit.int .i64 a).wf = true) : -9223372036854775808 ≤ a ∧ a ≤ 9223372036854775807 := by
  simpa [Lit.wf, IntKind.min, IntKind.max, IntKind.signed, IntKind.bits] using h
theorem wrap64 {n : Int} (h : -9223372036854775808 ≤ n) (h2 : n ≤ 9223372036854775807) : IntKind.i64.wrap n = n := by
  have h1 : IntKind.i64.wrap n = if n % 18446744073709551616 ≥ 9223372036854775808 then n % 18446744073709551616 - 18446744073709551616 else n % 18446744073709551616 := by
    simp [IntKind.wrap, IntKind.signed, IntKind.bits]
  rw [h1]
  split <;> omega
theorem wrap8 {n : Int} (h : 0 ≤ n) (h2 : n ≤ 255) : IntKind.u8.wrap n = n := by
  simp only [IntKind.wrap, IntKind.signed, IntKind.bits, Bool.false_and, Bool.false_eq_true, if_false]
  omega
theorem wrap16 {n : Int} (h : 0 ≤ n) (h2 : n ≤ 65535) : IntKind.u16.wrap n = n := by
  simp only [IntKind.wrap, IntKind.signed, IntKind.bits, Bool.false_and, Bool.false_eq_true, if_false]
  omega
theorem bv8 {a : Int} (h : (Lit.int .u8 a).wf = true) : ∃ A : BitVec 8, a = (A.toNat : Int) := by
  have := wf_u8 h
  exact ⟨BitVec.ofNat 8 a.toNat, by simp; omega⟩
theorem wrap_u8 (A : BitVec 8) : IntKind.u8.wrap (A.toNat : Int) = (A.toNat : Int) := by
  have := A.isLt
  simp [IntKind.wrap, IntKind.signed, IntKind.bits]; omega
theorem bv_and (A B : BitVec 8) : bits .and .u8 (A.toNat : Int) (B.toNat : Int) = ((A &&& B).toNat : Int) := by
  show IntKind.u8.wrap _ = _
  have h : ∀ X : BitVec 8, BitVec.ofInt 8 (X.toNat : Int) = X := fun X => by simp
  simp only [IntKind.bits]
  rw [h, h]; exact wrap_u8 _
theorem bv_or (A B : BitVec 8) : bits .or .u8 (A.toNat : Int) (B.toNat : Int) = ((A ||| B).toNat : Int) := by
  show IntKind.u8.wrap _ = _
  have h : ∀ X : BitVec 8, BitVec.ofInt 8 (X.toNat : Int) = X := fun X => by simp
  simp only [IntKind.bits]
  rw [h, h]; exact wrap_u8 _
theorem bv_xor (A B : BitVec 8) : bits .xor .u8 (A.toNat : Int) (B.toNat : Int) = ((A ^^^ B).toNat : Int) := by
  show IntKind.u8.wrap _ = _
  have h : ∀ X : BitVec 8, BitVec.ofInt 8 (X.toNat : Int) = X := fun X => by simp
  simp only [IntKind.bits]
  rw [h, h]; exact wrap_u8 _
theorem bv_andNot (A B : BitVec 8) : bits .andNot .u8 (A.toNat : Int) (B.toNat : Int) = ((A &&& ~~~B).toNat : Int) := by
  show IntKind.u8.wrap _ = _
  have h : ∀ X : BitVec 8, BitVec.ofInt 8 (X.toNat : Int) = X := fun X => by simp
  simp only [IntKind.bits]
  rw [h, h]; exact wrap_u8 _

/-- A loop, by an invariant that bears a state of its own, and a measure of that state. -/
theorem ALoop.by {σ : Type} {body : AK → List Value → List Blk → Prop} {K : AK} {ts : List Value} {H : List Blk} (I : σ → List Value → List Blk → Prop) (m : σ → Nat) (s0 : σ) (h0 : I s0 ts H)
    (round : ∀ s ts H, I s ts H → ∀ R : List Value → List Blk → Prop, (∀ s' ts' H', I s' ts' H' → m s' < m s → R ts' H') → body (fun e ts' H' => match e with | .normal => R ts' H' | e => K e ts' H') ts H) : ALoop body K ts H := by
  have key : ∀ (n : Nat) (s : σ) (ts : List Value) (H : List Blk), I s ts H → m s < n → rounds body K n ts H := by
    intro n
    induction n with
    | zero => intro s ts H _ h; omega
    | succ n ih => intro s ts H hI hm; exact round s ts H hI (rounds body K n) fun s' ts' H' hI' hm' => ih s' ts' H' hI' (by omega)
  exact .of (m s0 + 1) (key _ s0 ts H h0 (by omega))

/-- What a frame's slots hold, where it is told. -/
def slay : List (Option Value) → List Value → List Value
  | some v :: p, _ :: t => v :: slay p t
  | none :: p, x :: t => x :: slay p t
  | [], _ => []
  | _ :: _, [] => [undef]
/-- The frame of a pattern: the other slots hold what 'x' tells. -/
def slotsF (x : Nat → Value) : List (Option Value) → List Nat → (List Value → Prop) → Prop
  | [], _, k => k []
  | some v :: p, _ :: ns, k => slotsF x p ns fun l => k (v :: l)
  | none :: p, n :: ns, k => slotsF x p ns fun l => k (x n :: l)
  | _ :: _, [], _ => True
def many : List Nat := [0, 1, 2, 3, 4, 5, 6, 7, 8, 9, 10, 11, 12, 13, 14, 15, 16, 17, 18, 19, 20, 21, 22, 23, 24, 25, 26, 27, 28, 29, 30, 31, 32, 33, 34, 35, 36, 37, 38, 39, 40, 41, 42, 43, 44, 45, 46, 47, 48, 49, 50, 51, 52, 53, 54, 55, 56, 57, 58, 59, 60, 61, 62, 63, 64, 65, 66, 67, 68, 69, 70, 71, 72, 73, 74, 75, 76, 77, 78, 79, 80, 81, 82, 83, 84, 85, 86, 87, 88, 89, 90, 91, 92, 93, 94, 95, 96, 97, 98, 99, 100, 101, 102, 103, 104, 105, 106, 107, 108, 109, 110, 111, 112, 113, 114, 115, 116, 117, 118, 119, 120, 121, 122, 123, 124, 125, 126, 127, 128, 129, 130, 131, 132, 133, 134, 135, 136, 137, 138, 139, 140, 141, 142, 143, 144, 145, 146, 147, 148, 149, 150, 151, 152, 153, 154, 155, 156, 157, 158, 159, 160, 161, 162, 163, 164, 165, 166, 167, 168, 169, 170, 171, 172, 173, 174, 175, 176, 177, 178, 179, 180, 181, 182, 183, 184, 185, 186, 187, 188, 189, 190, 191, 192, 193, 194, 195, 196, 197, 198, 199, 200, 201, 202, 203, 204, 205, 206, 207, 208, 209, 210, 211, 212, 213, 214, 215, 216, 217, 218, 219, 220, 221, 222, 223, 224, 225, 226, 227, 228, 229, 230, 231, 232, 233, 234, 235, 236, 237, 238, 239, 240, 241, 242, 243, 244, 245, 246, 247, 248, 249, 250, 251, 252, 253, 254, 255, 256, 257, 258, 259, 260, 261, 262, 263, 264, 265, 266, 267, 268, 269, 270, 271, 272, 273, 274, 275, 276, 277, 278, 279, 280, 281, 282, 283, 284, 285, 286, 287, 288, 289, 290, 291, 292, 293, 294, 295, 296, 297, 298, 299, 300, 301, 302, 303, 304, 305, 306, 307, 308, 309, 310, 311, 312, 313, 314, 315, 316, 317, 318, 319, 320, 321, 322, 323, 324, 325, 326, 327, 328, 329, 330, 331, 332, 333, 334, 335, 336, 337, 338, 339, 340, 341, 342, 343, 344, 345, 346, 347, 348, 349, 350, 351, 352, 353, 354, 355, 356, 357, 358, 359, 360, 361, 362, 363, 364, 365, 366, 367, 368, 369, 370, 371, 372, 373, 374, 375, 376, 377, 378, 379, 380, 381, 382, 383, 384, 385, 386, 387, 388, 389, 390, 391, 392, 393, 394, 395, 396, 397, 398, 399]
theorem slots_of {x : Nat → Value} : ∀ {p : List (Option Value)} {ns : List Nat} {ts : List Value} {k : List Value → Prop}, slay p ts = ts → p.length ≤ ns.length → (∀ (i n : Nat) (v : Value), ns[i]? = some n → ts[i]? = some v → x n = v) → slotsF x p ns k → k ts
  | [], _, [], k, _, _, _, h => h
  | [], _, _ :: _, k, hl, _, _, h => by simp [slay] at hl
  | some v :: p, n :: ns, [], k, hl, _, _, h => by simp [slay] at hl
  | some v :: p, n :: ns, y :: ts, k, hl, hn, hx, h => by
    simp only [slay, List.cons.injEq] at hl
    obtain ⟨rfl, hl⟩ := hl
    exact slots_of (k := fun l => k (v :: l)) hl (by simpa using hn) (fun i m w h1 h2 => hx (i + 1) m w (by simpa using h1) (by simpa using h2)) h
  | none :: p, n :: ns, y :: ts, k, hl, hn, hx, h => by
    simp only [slay, List.cons.injEq] at hl
    have := slots_of (k := fun l => k (x n :: l)) hl.2 (by simpa using hn) (fun i m w h1 h2 => hx (i + 1) m w (by simpa using h1) (by simpa using h2)) h
    rwa [hx 0 n y rfl rfl] at this
  | _ :: _, [], _, _, _, hn, _, _ => by simp at hn
  | none :: p, n :: ns, [], k, hl, _, _, h => by simp [slay] at hl
/-- **A loop**, by what the frame and the heap hold ahead of each round, told by a state of its own, and a measure. -/
theorem ALoop.go {σ : Type} {body : AK → List Value → List Blk → Prop} {K : AK} {ts : List Value} {H : List Blk} (pat : σ → List (Option Value)) (hp : σ → List Blk) (inv : σ → Prop) (m : σ → Nat) (s0 : σ)
    (h0 : slay (pat s0) ts = ts) (hh : hp s0 = H) (hi : inv s0) (hlen : ∀ s, Nat.ble (pat s).length 400 = true)
    (round : ∀ s, inv s → ∀ (x : Nat → Value) (R : List Value → List Blk → Prop), (∀ s' ts' H', slay (pat s') ts' = ts' → hp s' = H' → inv s' → m s' < m s → R ts' H') →
      slotsF x (pat s) many fun ts => body (fun e ts' H' => match e with | .normal => R ts' H' | e => K e ts' H') ts (hp s)) : ALoop body K ts H := by
  refine ALoop.by (fun s ts H => slay (pat s) ts = ts ∧ hp s = H ∧ inv s) m s0 ⟨h0, hh, hi⟩ fun s ts H hI R hR => ?_
  obtain ⟨h1, rfl, h3⟩ := hI
  have hmany : many.length = 400 := by decide +kernel
  refine slots_of (x := fun n => ts.getD n undef) h1 (by rw [hmany]; exact Nat.le_of_ble_eq_true (hlen s)) (fun i n v hn hv => ?_) (round s h3 (fun n => ts.getD n undef) R fun s' ts' H' a b c d => hR s' ts' H' ⟨a, b, c⟩ d)
  have : n = i := by
    have h4 : many = List.range 400 := by decide +kernel
    rw [h4] at hn
    have := (List.getElem?_eq_some_iff.1 hn).2
    simpa using this.symm
  subst this
  simp [List.getD, hv]

noncomputable def roundsR (body : AK → List Value → List Blk → Prop) (K : AK) (n : Nat) : List Value → List Blk → Prop :=
  Nat.rec (motive := fun _ => List Value → List Blk → Prop) (fun _ _ => False) (fun _ ih ts H => body (fun e ts H => match e with | .normal => ih ts H | e => K e ts H) ts H) n
theorem roundsR_eq (body : AK → List Value → List Blk → Prop) (K : AK) : ∀ n : Nat, roundsR body K n = rounds body K n
  | 0 => by funext ts H; rfl
  | n + 1 => by funext ts H; unfold rounds; rw [← roundsR_eq body K n]; rfl
/-- A loop of few rounds, one by one. -/
theorem ALoop.run {body : AK → List Value → List Blk → Prop} {K : AK} {ts : List Value} {H : List Blk} (n : Nat) (h : roundsR body K n ts H) : ALoop body K ts H := .of n (by rw [← roundsR_eq]; exact h)

/-- A row of elements of 's' cells each, from 'off' on, read only. -/
def rowG (off len s : Nat) (cells : Nat → List Value) : Nat → Option Value := fun o => if off ≤ o ∧ o < off + len * s then (cells ((o - off) / s))[(o - off) % s]? else none
theorem rowG_at {off len s i m : Nat} {cells : Nat → List Value} (hi : i < len) (hm : m < s) : rowG off len s cells (off + i * s + m) = (cells i)[m]? := by
  have h1 : i * s + m < len * s := by
    have : (i + 1) * s ≤ len * s := Nat.mul_le_mul_right s hi
    rw [Nat.succ_mul] at this; omega
  have hd : (i * s + m) / s = i := by
    rw [Nat.add_comm, Nat.add_mul_div_right _ _ (by omega), Nat.div_eq_of_lt hm, Nat.zero_add]
  have hr : (i * s + m) % s = m := by
    rw [Nat.add_comm, Nat.add_mul_mod_self_right, Nat.mod_eq_of_lt hm]
  unfold rowG
  rw [if_pos ⟨by omega, by omega⟩, show off + i * s + m - off = i * s + m by omega, hd, hr]
theorem rowG_some {off len s o : Nat} {cells : Nat → List Value} {v : Value} (h : rowG off len s cells o = some v) : ∃ i m : Nat, i < len ∧ o = off + i * s + m ∧ (cells i)[m]? = some v := by
  unfold rowG at h
  split at h
  · rename_i hc
    obtain ⟨h1, h2⟩ := hc
    have hs : 0 < s := by
      rcases Nat.eq_zero_or_pos s with h0 | h0
      · rw [h0, Nat.mul_zero] at h2; omega
      · exact h0
    refine ⟨(o - off) / s, (o - off) % s, Nat.div_lt_of_lt_mul (by rw [Nat.mul_comm]; omega), ?_, h⟩
    have := Nat.div_add_mod (o - off) s
    rw [Nat.mul_comm] at this; omega
  · cases h

theorem fits_nil {cs : List Value} (h : FitsAll [] cs) : cs = [] := List.length_eq_zero_iff.1 h.1
theorem fits_cons {k : CK} {ks : List CK} {cs : List Value} (h : FitsAll (k :: ks) cs) : ∃ v cs', cs = v :: cs' ∧ k.fits v ∧ FitsAll ks cs' := by
  obtain ⟨hl, h⟩ := h
  cases cs with
  | nil => simp at hl
  | cons v cs' => exact ⟨v, cs', rfl, h 0 k v rfl rfl, by simpa using hl, fun i k x hk hx => h (i + 1) k x (by simpa using hk) (by simpa using hx)⟩
theorem fits_int {k : IntKind} {ks : List CK} {cs : List Value} (h : FitsAll (.int k :: ks) cs) : ∃ n cs', cs = .int k n :: cs' ∧ (Lit.int k n).wf = true ∧ FitsAll ks cs' := by
  obtain ⟨v, cs', rfl, ⟨n, rfl, hw⟩, hf⟩ := fits_cons h
  exact ⟨n, cs', rfl, hw, hf⟩
theorem fits_bool {ks : List CK} {cs : List Value} (h : FitsAll (.bool :: ks) cs) : ∃ b cs', cs = .bool b :: cs' ∧ FitsAll ks cs' := by
  obtain ⟨v, cs', rfl, ⟨b, rfl⟩, hf⟩ := fits_cons h
  exact ⟨b, cs', rfl, hf⟩
end Go.Aw
end
section
/-
  Masks, shifts and wraps as plain arithmetic.
-/
namespace Go.Aw

theorem ofInt_toNat (w : Nat) (n : Int) : ((BitVec.ofInt w n).toNat : Int) = n % (2 : Int) ^ w := by
  rw [BitVec.toNat_ofInt]
  have h0 : (0 : Int) ≤ n % ((2 ^ w : Nat) : Int) := Int.emod_nonneg _ (by have := Nat.two_pow_pos w; omega)
  rw [Int.toNat_of_nonneg h0, Int.natCast_pow]; rfl

/-- A mask of low bits is a remainder. -/
theorem and_mask (k : IntKind) (n : Int) (j : Nat) (hj : j < k.bits) : bits .and k n ((2 : Int) ^ j - 1) = n % (2 : Int) ^ j := by
  show k.wrap ((BitVec.ofInt k.bits n &&& BitVec.ofInt k.bits ((2 : Int) ^ j - 1)).toNat : Int) = _
  have hp : (0 : Int) < 2 ^ j := Int.pow_pos (by omega)
  have h1 : (BitVec.ofInt k.bits ((2 : Int) ^ j - 1)).toNat = 2 ^ j - 1 := by
    have h := ofInt_toNat k.bits ((2 : Int) ^ j - 1)
    have h2 : ((2 : Int) ^ j - 1) % (2 : Int) ^ k.bits = (2 : Int) ^ j - 1 := by
      apply Int.emod_eq_of_lt (by omega)
      have : (2 : Int) ^ j ≤ 2 ^ k.bits := by exact_mod_cast Nat.pow_le_pow_right (by omega) (Nat.le_of_lt hj)
      omega
    rw [h2] at h
    have h3 : ((2 ^ j - 1 : Nat) : Int) = (2 : Int) ^ j - 1 := by
      rw [Int.ofNat_sub (Nat.two_pow_pos j)]; simp
    omega
  have h4 : (BitVec.ofInt k.bits n &&& BitVec.ofInt k.bits ((2 : Int) ^ j - 1)).toNat = (BitVec.ofInt k.bits n).toNat % 2 ^ j := by
    rw [BitVec.toNat_and, h1, Nat.and_two_pow_sub_one_eq_mod]
  rw [h4, Int.natCast_emod, ofInt_toNat]
  have h5 : n % (2 : Int) ^ k.bits % ((2 ^ j : Nat) : Int) = n % (2 : Int) ^ j := by
    have : ((2 ^ j : Nat) : Int) = (2 : Int) ^ j := by simp
    rw [this]
    exact Int.emod_emod_of_dvd n (by
      have : (2 : Int) ^ k.bits = 2 ^ j * 2 ^ (k.bits - j) := by rw [← Int.pow_add]; congr 1; omega
      rw [this]; exact Int.dvd_mul_right _ _)
  rw [h5]
  have h6 : 0 ≤ n % (2 : Int) ^ j := Int.emod_nonneg _ (by omega)
  have h7 : n % (2 : Int) ^ j < 2 ^ j := Int.emod_lt_of_pos _ hp
  have h8 : (2 : Int) ^ j ≤ 2 ^ (k.bits - 1) := by exact_mod_cast Nat.pow_le_pow_right (by omega) (by omega)
  have h9 : (2 : Int) ^ (k.bits - 1) ≤ 2 ^ k.bits := by exact_mod_cast Nat.pow_le_pow_right (by omega) (by omega)
  unfold IntKind.wrap
  have h10 : n % (2 : Int) ^ j % (2 : Int) ^ k.bits = n % (2 : Int) ^ j := Int.emod_eq_of_lt h6 (by omega)
  simp only [h10]
  rw [if_neg]
  simp only [Bool.and_eq_true, decide_eq_true_eq, not_and]
  intro _; omega
theorem and3 (n : Int) : bits .and .i64 n 3 = n % 4 := and_mask .i64 n 2 (by decide)
theorem and1 (n : Int) : bits .and .i64 n 1 = n % 2 := and_mask .i64 n 1 (by decide)
theorem and1u (n : Int) : bits .and .u8 n 1 = n % 2 := and_mask .u8 n 1 (by decide)
theorem and3u (n : Int) : bits .and .u8 n 3 = n % 4 := and_mask .u8 n 2 (by decide)
theorem and7u (n : Int) : bits .and .u8 n 7 = n % 8 := and_mask .u8 n 3 (by decide)
theorem and15u (n : Int) : bits .and .u8 n 15 = n % 16 := and_mask .u8 n 4 (by decide)
theorem and15 (n : Int) : bits .and .i64 n 15 = n % 16 := and_mask .i64 n 4 (by decide)
theorem and7 (n : Int) : bits .and .i64 n 7 = n % 8 := and_mask .i64 n 3 (by decide)
end Go.Aw
end
section
/-
  What is known of a slice's elements; a byte's top bit.
-/
namespace Go.Aw
open Go.ChangeShapes Go.WideShapes Go.RowKit

/-- What the cells of 'len' elements of 'sz' cells each, from 'off' on, hold. -/
@[irreducible] def slc (off sz len : Nat) (E : Nat → List Value) (o : Nat) : Option Value :=
  if off ≤ o ∧ (o - off) / sz < len then (E ((o - off) / sz))[(o - off) % sz]? else none

theorem slc_at {off sz len : Nat} {E : Nat → List Value} {n m o : Nat} {v : Value} (hn : n < len) (hm : m < sz) (h : (E n)[m]? = some v) (ho : o = off + n * sz + m) : slc off sz len E o = some v := by
  subst ho
  unfold slc
  have e1 : off + n * sz + m - off = m + sz * n := by rw [Nat.mul_comm]; omega
  have hd : (off + n * sz + m - off) / sz = n := by rw [e1, Nat.add_mul_div_left _ _ (by omega), Nat.div_eq_of_lt hm]; omega
  have hr : (off + n * sz + m - off) % sz = m := by rw [e1, Nat.add_mul_mod_self_left, Nat.mod_eq_of_lt hm]
  rw [hd, hr, if_pos ⟨by omega, hn⟩]; exact h

theorem slc_ex {off sz len : Nat} {E : Nat → List Value} {k : Value → Prop} {o : Nat} (n m : Nat) {v : Value} (hn : n < len) (hm : m < sz) (h : (E n)[m]? = some v) (ho : o = off + n * sz + m) (hk : k v) : ∃ v, slc off sz len E o = some v ∧ k v :=
  ⟨v, slc_at hn hm h ho, hk⟩

theorem slc_some {off sz len : Nat} {E : Nat → List Value} {o : Nat} {v : Value} (h : slc off sz len E o = some v) (hs : 0 < sz) : ∃ n m, n < len ∧ o = off + n * sz + m ∧ (E n)[m]? = some v := by
  unfold slc at h
  split at h
  · rename_i hc
    refine ⟨(o - off) / sz, (o - off) % sz, hc.2, ?_, h⟩
    have := Nat.div_add_mod (o - off) sz
    rw [Nat.mul_comm] at this
    omega
  · cases h

section
variable {P : Program} {T : Tab}

/-- A walk over a law that reads one slice. -/
theorem walk_slc {f : FuncId} {args cargs : List Value} {off sz len : Nat} {E : Nat → List Value} {ks : List CK} (h : ACalls P f args [.ro (slc off sz len E)] fun v _ => v = .bool true) (hsz : 0 < sz)
    {b : Nat} (hv : VRs [b] args cargs) (w : World) (hb : b < w.heap.size) (hE : ∀ n, n < len → FitsAll ks (E n))
    (hg : ∀ n, n < len → ∀ m x, (E n)[m]? = some x → w.cell? ⟨b, off + n * sz + m, none⟩ = some x) :
    Calls P f cargs.toArray w fun e w' => e = .returned (.bool true) ∧ Below w.heap.size w w' :=
  walk_ro h hv w hb fun o v hs => by
    obtain ⟨n, m, hn, rfl, hm⟩ := slc_some hs hsz
    refine ⟨hg n hn m v hm, ?_⟩
    exact ((hE n hn).vrs [b]).2 m v v hm hm
end

/-! ## A loop whose rounds make memory that is forgotten -/
def mix : List Value → List Value → List Value
  | _ :: l, .chan none :: m => .chan none :: mix l m
  | v :: l, _ :: m => v :: mix l m
  | l, [] => l
  | [], _ => []
def bdJ (n : Nat) (v : Value) : Bool := match v with | .chan none => true | v => bdv 6 n v
def bdB (n : Nat) (b : Blk) : Bool := match b with | .cells c _ => c.all (bdv 6 n) | _ => true
def roMask : List Blk → List Blk → List Blk
  | b0 :: H0, b :: H2 => (match b with | .ro f => .ro f | _ => b0) :: roMask H0 H2
  | H0, [] => H0
  | [], b :: H2 => match b with | .ro _ => [.gone] | _ => roMask [] H2

theorem fadeS_of {n : Nat} : ∀ {l m : List Value}, mix l m = m → m.all (bdJ n) = true → fadeS n l m
  | [], [], _, _ => trivial
  | _ :: _, [], h, _ => by simp [mix] at h
  | [], _ :: _, h, _ => by simp [mix] at h
  | v :: l, w :: m, h, hb => by
    simp only [List.all_cons, Bool.and_eq_true] at hb
    unfold fadeS
    split
    · rename_i heq; simp at heq
    · rename_i heq heq2
      cases heq; cases heq2
      simp only [mix, List.cons.injEq, true_and] at h
      exact fadeS_of h hb.2
    · rename_i hc heq heq2
      cases heq; cases heq2
      have hb1 : bdv 6 n w = true := by
        have := hb.1
        unfold bdJ at this
        split at this
        · exact absurd rfl (hc)
        · exact this
      have h' : v = w ∧ mix l m = m := by
        unfold mix at h
        split at h
        · rename_i heq heq2; cases heq; cases heq2; exact absurd rfl hc
        · rename_i heq heq2; cases heq; cases heq2; simpa using h
        · rename_i heq heq2; cases heq2
        · rename_i heq heq2 ; cases heq
      exact ⟨hb1, h'.1, fadeS_of h'.2 hb.2⟩
    · rename_i h1 h2 h3
      exact h3 v l w m rfl rfl

theorem fadeH_of {n : Nat} : ∀ {H2 H0 : List Blk} {J : List Blk}, H2.all (bdB n) = true → roMask H0 H2 = H0 → fadeH n H0 (H2 ++ J) H2
  | [], H0, J, _, _ => by unfold fadeH; exact trivial
  | b :: H2, H0, J, hb, hr => by
    simp only [List.all_cons, Bool.and_eq_true] at hb
    cases b with
    | cells c e =>
      cases H0 with
      | nil =>
        have h9 : roMask [] H2 = [] := by simpa [roMask] using hr
        simp only [List.cons_append]
        unfold fadeH
        exact ⟨by simpa [bdB] using hb.1, rfl, fadeH_of (H0 := []) hb.2 h9⟩
      | cons b0 H0 =>
        have h9 : roMask H0 H2 = H0 := by simpa [roMask] using hr
        simp only [List.cons_append]
        unfold fadeH
        exact ⟨by simpa [bdB] using hb.1, rfl, fadeH_of (H0 := H0) hb.2 h9⟩
    | ro f =>
      cases H0 with
      | nil => simp [roMask] at hr
      | cons b0 H0 =>
        have h9 : .ro f = b0 ∧ roMask H0 H2 = H0 := by simpa [roMask] using hr
        simp only [List.cons_append]
        unfold fadeH
        exact ⟨h9.1.symm, rfl, fadeH_of hb.2 h9.2⟩
    | gone =>
      cases H0 with
      | nil =>
        have h9 : roMask [] H2 = [] := by simpa [roMask] using hr
        simp only [List.cons_append]
        unfold fadeH
        exact fadeH_of (H0 := []) hb.2 h9
      | cons b0 H0 =>
        have h9 : roMask H0 H2 = H0 := by simpa [roMask] using hr
        simp only [List.cons_append]
        unfold fadeH
        exact fadeH_of (H0 := H0) hb.2 h9

/-- **A loop**, by what the frame and the heap hold ahead of each round; what a round makes beside that is forgotten. -/
theorem ALoop.fd {σ : Type} {body : AK → List Value → List Blk → Prop} {K : AK} {ts : List Value} {H : List Blk} (fr : σ → List Value) (hp : σ → List Blk) (inv : σ → Prop) (m : σ → Nat) (s0 : σ) (J0 : List Blk)
    (h0 : mix ts (fr s0) = fr s0) (hh : H = hp s0 ++ J0) (hi : inv s0)
    (hok : ∀ s, Nat.ble H.length (hp s).length = true ∧ (fr s).all (bdJ (hp s).length) = true ∧ (hp s).all (bdB (hp s).length) = true ∧ roMask H (hp s) = H)
    (round : ∀ s, inv s → ∀ R : List Value → List Blk → Prop, (∀ s' ts' H' J, mix ts' (fr s') = fr s' → H' = hp s' ++ J → inv s' → m s' < m s → R ts' H') →
      body (fun e ts' H' => match e with | .normal => R ts' H' | e => K e ts' H') (fr s) (hp s)) : ALoop body K ts H := by
  have hf : ∀ s ts' H' J, mix ts' (fr s) = fr s → H' = hp s ++ J → Fade H ts' H' (fr s) (hp s) := fun s ts' H' J h1 h2 => by
    obtain ⟨a, b, c, d⟩ := hok s
    refine .inl ⟨a, fadeS_of h1 b, ?_⟩
    rw [h2]; exact fadeH_of c d
  have key : ∀ (n : Nat) (s : σ), inv s → m s < n → roundsF body K H n (fr s) (hp s) := by
    intro n
    induction n with
    | zero => intro s _ h; omega
    | succ n ih =>
      intro s hI hm
      exact round s hI (fun ts' H' => ∃ ts2 H2, Fade H ts' H' ts2 H2 ∧ roundsF body K H n ts2 H2) fun s' ts' H' J h1 h2 hI' hm' => ⟨_, _, hf s' ts' H' J h1 h2, ih s' hI' (by omega)⟩
  exact .fade (m s0 + 1) _ _ (hf s0 ts H J0 h0 hh) (key _ s0 hi (by omega))

theorem and128u (n : Int) (h : 0 ≤ n ∧ n ≤ 255) : (bits .and .u8 n 128 != 0) = decide (128 ≤ n) := by
  obtain ⟨j, rfl⟩ : ∃ j : Nat, n = j := ⟨n.toNat, by omega⟩
  have key : ∀ j : Nat, j < 256 → (bits .and .u8 (j : Int) 128 != 0) = decide (128 ≤ (j : Int)) := by decide +kernel
  exact key j (by omega)
end Go.Aw
end
section
/-
  Code within a round of a range over a function: what holds of an operation in an activation of its own holds in a round's frame.
-/
namespace Go.Aw
section
variable {P : Program} {T : Tab}

/-- The widest fence, in a round's frame or not. -/
abbrev wideR (r : Option Nat) : Fence := { Fence.wide with round := r }

def noDefer (o : Oper) : Bool := match o.op with | .defer _ => false | _ => true

theorem op_in {r : Option Nat} {n : Nat} {o : Oper} {a : Act} {w : World} {next : Act → World → Prop} {Q : Exit → Act → World → Prop} (hd : noDefer o = true)
    (h : o.wp P a w next Q) : o.wpIn (wideR r) n P a w next Q := by
  refine ⟨fun _ _ => trivial, ?_⟩
  have hs : o.semAt (wideR r).round a.eval = execOp a.eval o := Oper.semAt_eq r a.eval o (fun c hc => by simp [noDefer, hc] at hd)
  rw [hs]
  unfold Oper.wp at h
  generalize (execOp a.eval o).run P w = x at h
  cases x with
  | halt hh w' => cases hh <;> first | exact h | exact False.elim h
  | ok v w' =>
    cases v <;> try exact h
    case enter f args => exact ⟨fun hc => by simp [Fence.wide] at hc, (callsIn_wide.2 h : CallsIn Fence.wide (n - 1) P f args w' _)⟩
    case row row args => exact ⟨fun hc => by simp [Fence.wide] at hc, fun c cs _ => let ⟨v, w', r, s⟩ := h c cs; ⟨v, w', r, stepsIn_wide.2 s⟩⟩
    all_goals exact False.elim h

theorem op_mono {o : Oper} {a : Act} {w : World} {next next' : Act → World → Prop} {Q : Exit → Act → World → Prop} (hn : ∀ a w, next a w → next' a w)
    (h : o.wp P a w next Q) : o.wp P a w next' Q := by
  unfold Oper.wp at h ⊢
  generalize (execOp a.eval o).run P w = r at h
  cases r with
  | halt hh w' => cases hh <;> first | exact h | exact False.elim h
  | ok v w' =>
    cases v <;> try first | exact hn _ _ h | exact False.elim h
    case enter f args => exact Calls.mono h fun e w' hh => by cases e <;> first | exact hn _ _ hh | exact hh
    case row row args => exact Rows.mono h fun v w' hh => hn _ _ hh

theorem ops_in {r : Option Nat} {n : Nat} {ops : Array Oper} {Q : Exit → Act → World → Prop} (hQ : ¬ LetsOut Q) (hd : ops.toList.all noDefer = true) :
    ∀ (js : List Nat) (a : Act) (w : World), wpOps P ops Q js a w → wpOpsIn (wideR r) n P ops Q js a w
  | [], a, w, h => h
  | i :: rest, a, w, h => by
    unfold wpOps at h
    unfold wpOpsIn
    cases ho : ops[i]? with
    | none => simp only [ho] at h ⊢; exact ops_in hQ hd rest a w h
    | some o =>
      simp only [ho] at h ⊢
      split at h
      · rename_i hw
        rw [if_pos hw]
        rcases h with h | ⟨_, h⟩
        · exact op_in (List.all_eq_true.1 hd o (by simpa using Array.mem_of_getElem? ho)) (op_mono (fun a w h => ops_in hQ hd rest a w h) h)
        · exact absurd h hQ
      · rename_i hw
        rw [if_neg hw]
        exact ⟨fun _ _ => trivial, ops_in hQ hd rest _ w h⟩

/-- As 'Out', with 'ds' for the deferred calls. -/
def OutD (ds : List Deferred) (μ0 : List Nat) (H0 : List Blk) (w0 : World) (k : List Value → List Blk → Prop) (a : Act) (w : World) : Prop :=
  ∃ (μ : List Nat) (ts : List Value) (H : List Blk), SRs μ ts a.tmps.toList ∧ Rel μ H w ∧ Ext μ0 H0 w0 μ H w ∧ a.defers = ds ∧ k ts H
def OutXD (ds : List Deferred) (μ0 : List Nat) (H0 : List Blk) (w0 : World) (K : AK) : Exit → Act → World → Prop
  | .normal, a, w => OutD ds μ0 H0 w0 (K .normal) a w
  | .exit id, a, w => OutD ds μ0 H0 w0 (K (.exit id)) a w
  | .ret, a, w => OutD ds μ0 H0 w0 (K .ret) a w
  | _, _, _ => False
theorem OutD.trans {ds : List Deferred} {μ0 μ1 : List Nat} {H0 H1 : List Blk} {w0 w1 : World} (hl0 : H0.length = μ0.length) (hl1 : H1.length = μ1.length) (hx : Ext μ0 H0 w0 μ1 H1 w1) {k : List Value → List Blk → Prop} {a : Act} {w : World}
    (h : OutD ds μ1 H1 w1 k a w) : OutD ds μ0 H0 w0 k a w := by
  obtain ⟨μ, ts, H, h1, h2, h3, h4, h5⟩ := h
  exact ⟨μ, ts, H, h1, h2, hx.trans hl0 hl1 h3, h4, h5⟩
theorem OutXD.trans {ds : List Deferred} {μ0 μ1 : List Nat} {H0 H1 : List Blk} {w0 w1 : World} (hl0 : H0.length = μ0.length) (hl1 : H1.length = μ1.length) (hx : Ext μ0 H0 w0 μ1 H1 w1) {K : AK} (e : Exit) (a : Act) (w : World)
    (h : OutXD ds μ1 H1 w1 K e a w) : OutXD ds μ0 H0 w0 K e a w := by
  cases e <;> first | exact OutD.trans hl0 hl1 hx h | exact h
theorem of_atEndD {ds : List Deferred} {μ0 : List Nat} {H0 : List Blk} {w0 : World} {K : AK} (e : Exit) (a : Act) (w : World) (h : AtEnd (OutD ds μ0 H0 w0 (K .normal)) e a w) : OutXD ds μ0 H0 w0 K e a w := by
  cases e <;> first | exact h | exact False.elim h

theorem ops_soundD (hT : TabOk P T) {ds : List Deferred} {ops : Array Oper} (hok : ∀ o ∈ ops.toList, o.op.operands.toList.all opOk = true) {μ0 : List Nat} {H0 : List Blk} {w0 : World} {K : List Value → List Blk → Prop} (hl0 : H0.length = μ0.length) :
    ∀ (rest : List Oper) (n : Nat), ops.toList.drop n = rest → ∀ (μ : List Nat) (ts : List Value) (H : List Blk) (a : Act) (w : World), opsF P T ops.toList rest ts H K → SRs μ ts a.tmps.toList → Rel μ H w → Ext μ0 H0 w0 μ H w → a.defers = ds →
      wpOps P ops (AtEnd (OutD ds μ0 H0 w0 K)) (List.range' n rest.length) a w
  | [], n, hd, μ, ts, H, a, w, h, hv, hr, hx, hdef => ⟨μ, ts, H, hv, hr, hx, hdef, h⟩
  | o :: rest, n, hd, μ, ts, H, a, w, h, hv, hr, hx, hdef => by
    have hn : ops[n]? = some o := by
      have := congrArg (fun l => l[0]?) hd
      simp only [List.getElem?_drop, Nat.add_zero, List.getElem?_cons_zero] at this
      simpa using this
    have hd' : ops.toList.drop (n + 1) = rest := by
      have := congrArg (List.drop 1) hd
      simpa [List.drop_drop] using this
    have hoo : o.op.operands.toList.all opOk = true := hok o (by
      have : o ∈ ops.toList.drop n := by rw [hd]; exact List.mem_cons_self ..
      exact List.mem_of_mem_drop this)
    simp only [List.length_cons, List.range'_succ, wpOps, hn]
    unfold opsF at h
    rcases want_sound hv h with ⟨hw, h⟩ | ⟨hw, h⟩
    · rw [if_pos hw]
      left
      cases hq : quietOp o.op with
      | true =>
        simp only [hq] at h
        obtain ⟨v, cv, h, hvr, hrun⟩ := quietS_here hT o h hoo hv hr
        obtain ⟨ts', h, hv'⟩ := put_sound hv hvr h
        refine wp_value (ar := a) rfl hrun (ops_soundD hT hok hl0 rest (n + 1) hd' μ ts' H _ w h hv' hr hx ?_)
        unfold Act.put; cases o.dst <;> exact hdef
      | false =>
        simp only [hq] at h
        refine effect_sound hT o (ar := a) rfl h hoo hv hr ?_
        intro v cv μ' H' w' hvr hr' hx' h
        obtain ⟨ts', h, hv'⟩ := put_sound (hv.mono hx'.sub) hvr h
        refine ops_soundD hT hok hl0 rest (n + 1) hd' μ' ts' H' _ w' h hv' hr' (hx.trans hl0 hr.len hx') ?_
        unfold Act.put; cases o.dst <;> exact hdef
    · rw [if_neg (by simp [hw])]
      obtain ⟨ts', h, hv'⟩ := put_sound hv VR.undef h
      refine ops_soundD hT hok hl0 rest (n + 1) hd' μ ts' H _ w h hv' hr hx ?_
      unfold Act.put; cases o.dst <;> exact hdef

theorem not_lets {ds : List Deferred} {μ : List Nat} {H : List Blk} {w : World} {K : List Value → List Blk → Prop} : ¬ LetsOut (AtEnd (OutD ds μ H w K)) := fun ⟨_, _, h⟩ => h

/-- Code without defer, loops and drawn orders. -/
def plainC : Code → Bool
  | .skip => true
  | .region _ ops false => ops.toList.all noDefer
  | .seq x y => plainC x && plainC y
  | .cond _ x y => plainC x && plainC y
  | .block _ c => plainC c
  | .exit _ => true
  | .ret => true
  | _ => false

theorem code_in (hT : TabOk P T) (hs : Hints) {r : Option Nat} {n : Nat} {ds : List Deferred} : ∀ (c : Code) (K : AK) (ts : List Value) (H : List Blk), plainC c = true → codeOk T hs c = true → AWp P T hs c K ts H →
    ∀ (μ : List Nat) (a : Act) (w : World), SRs μ ts a.tmps.toList → Rel μ H w → a.defers = ds → c.wpIn (wideR r) n P (OutXD ds μ H w K) a w := by
  intro c
  induction c with
  | skip => intro K ts H _ _ h μ a w hv hr hd; exact wpIn_skip ⟨μ, ts, H, hv, hr, Ext.refl _ _ _, hd, h⟩
  | region id ops draw =>
    intro K ts H hp ho h μ a w hv hr hd
    cases draw with
    | false =>
      have hok : ∀ o ∈ ops.toList, o.op.operands.toList.all opOk = true := fun o hm => (List.all_eq_true.1 ho) o hm
      have := ops_soundD (ds := ds) (μ0 := μ) (H0 := H) (w0 := w) (K := K .normal) hT hok hr.len ops.toList 0 rfl μ ts H a w h hv hr (Ext.refl _ _ _) hd
      refine wpIn_mono (wpIn_region (id := id) (ops_in not_lets hp _ _ _ ?_)) fun e a w h => of_atEndD e a w h
      rw [List.range_eq_range']
      simpa using this
    | true => cases hp
  | seq x y ihx ihy =>
    intro K ts H hp ho h μ a w hv hr hd
    simp only [codeOk, Bool.and_eq_true] at ho
    simp only [plainC, Bool.and_eq_true] at hp
    refine wpIn_seq (wpIn_mono (ihx _ ts H hp.1 ho.1 h μ a w hv hr hd) fun e a1 w1 h1 => ?_)
    cases e with
    | normal =>
      obtain ⟨μ1, ts1, H1, hv1, hr1, hx1, hd1, h1⟩ := h1
      exact wpIn_mono (ihy K ts1 H1 hp.2 ho.2 h1 μ1 a1 w1 hv1 hr1 hd1) fun e a w h => OutXD.trans hr.len hr1.len hx1 e a w h
    | exit id => exact h1
    | ret => exact h1
    | goto l => exact h1
    | panic c => exact h1
    | outgrown => exact h1
  | cond c x y ihx ihy =>
    intro K ts H hp ho h μ a w hv hr hd
    simp only [codeOk, Bool.and_eq_true] at ho
    simp only [plainC, Bool.and_eq_true] at hp
    obtain ⟨v, h, hcv⟩ := ev_sound hv h ho.1.1
    obtain ⟨b, rfl⟩ : ∃ b, v = .bool b := by
      split at h
      · exact ⟨_, rfl⟩
      · exact False.elim h
    have hc : a.eval c = .bool b := by generalize a.eval c = z at hcv; cases hcv; rfl
    rcases bif_iff h with ⟨rfl, h⟩ | ⟨rfl, h⟩
    · exact wpIn_cond_true hc (ihx K ts H hp.1 ho.1.2 h μ a w hv hr hd)
    · exact wpIn_cond_false hc (ihy K ts H hp.2 ho.2 h μ a w hv hr hd)
  | block id c ih =>
    intro K ts H hp ho h μ a w hv hr hd
    refine wpIn_block (wpIn_mono (ih _ ts H hp ho h μ a w hv hr hd) fun e a1 w1 h1 => ?_)
    cases e with
    | normal => exact h1
    | exit j =>
      simp only [OutXD, Exit.inBlock] at h1 ⊢
      cases hj : Nat.beq j id with
      | true =>
        simp only [hj] at h1
        rw [if_pos (Nat.eq_of_beq_eq_true hj)]
        exact h1
      | false =>
        simp only [hj] at h1
        rw [if_neg (fun e => by rw [e] at hj; simp at hj)]
        exact h1
    | ret => exact h1
    | goto l => exact h1
    | panic c => exact h1
    | outgrown => exact h1
  | exit id => intro K ts H _ _ h μ a w hv hr hd; exact wpIn_exit ⟨μ, ts, H, hv, hr, Ext.refl _ _ _, hd, h⟩
  | ret => intro K ts H _ _ h μ a w hv hr hd; exact wpIn_ret ⟨μ, ts, H, hv, hr, Ext.refl _ _ _, hd, h⟩
  | _ => intro K ts H hp; simp [plainC] at hp
end
end Go.Aw
end
section
/-
  An iterator that keeps its state in a cell: 'for yield(s) { s = p.next(s) }'.
-/
namespace Go.Aw
section
variable {P : Program}

def itOps (tf t tb : TypeId) (pos : String) : Array Oper :=
  #[{ dst := some 4, op := .move (.tmp 0), type := tf, pos := pos, after := #[], guard := none },
    { dst := some 5, op := .load t (.tmp 1), type := t, pos := pos, after := #[], guard := none },
    { dst := some 6, op := .call { callee := .value (.tmp 4), args := #[.tmp 5], argTypes := #[t] }, type := tb, pos := pos,
      after := #[{ on := 0, ground := .data }, { on := 1, ground := .data }], guard := none }]
def stOps (tp t : TypeId) (g : FuncId) (pos : String) : Array Oper :=
  #[{ dst := some 7, op := .load tp (.tmp 2), type := tp, pos := pos, after := #[], guard := none },
    { dst := some 8, op := .load t (.tmp 1), type := t, pos := pos, after := #[], guard := none },
    { dst := some 9, op := .call { callee := .value (.func g), args := #[.tmp 7, .tmp 8], argTypes := #[tp, t] }, type := t, pos := pos,
      after := #[{ on := 0, ground := .data }, { on := 1, ground := .data }], guard := none },
    { dst := none, op := .store t (.tmp 1) (.tmp 9), type := 0, pos := pos,
      after := #[{ on := 2, ground := .data }, { on := 2, ground := .chain }, { on := 0, ground := .phase }, { on := 1, ground := .phase }, { on := 2, ground := .phase }], guard := none }]
def itCode (tf t tb tp : TypeId) (g : FuncId) (p1 p2 : String) : Code :=
  .block 0 (.loop (.seq (.seq (.region 0 (itOps tf t tb p1) false) (.cond (.tmp 6) .skip (.exit 0))) (.block 1 (.region 1 (stOps tp t g p2) false))))

/-- The iterator's temporaries. -/
def itTmps (l : Nat) (b0 b1 a4 a5 a6 a7 a8 a9 : Value) : Array Value := #[.func (.yield l) #[] #[], b0, b1, undef, a4, a5, a6, a7, a8, a9]

theorem wanted_plain {o : Oper} {y : Nat → Option Bool} (hg : o.guard = none) : Region.wanted o y = true := by simp [Region.wanted, hg]
section
variable {n : Nat} {ops : Array Oper} {Q : Exit → Act → World → Prop} {i : Nat} {rest : List Nat} {o : Oper} {a : Act} {w w' : World}
theorem opsIn_wp (ho : ops[i]? = some o) (hg : o.guard = none) (h : o.wpIn Fence.wide n P a w (wpOpsIn Fence.wide n P ops Q rest) Q) : wpOpsIn Fence.wide n P ops Q (i :: rest) a w := by
  unfold wpOpsIn
  simp only [ho]
  rw [if_pos (wanted_plain hg)]
  exact h
theorem opsIn_value {v : Value} (ho : ops[i]? = some o) (hg : o.guard = none) (hrun : (execOp a.eval o).run P w = .ok (.value v) w') (h : wpOpsIn Fence.wide n P ops Q rest (a.put o.dst v) w') : wpOpsIn Fence.wide n P ops Q (i :: rest) a w :=
  opsIn_wp ho hg ⟨fun _ _ => trivial, by show o.uponIn Fence.wide n P a _ Q ((execOp a.eval o).run P w); rw [hrun]; exact h⟩
theorem opsIn_skip (ho : ops[i]? = some o) (hg : o.guard = none) (hrun : (execOp a.eval o).run P w = .ok .skip w') (h : wpOpsIn Fence.wide n P ops Q rest (a.put o.dst undef) w') : wpOpsIn Fence.wide n P ops Q (i :: rest) a w :=
  opsIn_wp ho hg ⟨fun _ _ => trivial, by show o.uponIn Fence.wide n P a _ Q ((execOp a.eval o).run P w); rw [hrun]; exact h⟩
theorem opsIn_call {f : FuncId} {args : Array Value} {R : Ending → World → Prop} (ho : ops[i]? = some o) (hg : o.guard = none) (hrun : (execOp a.eval o).run P w = .ok (.enter f args) w') (hc : Calls P f args w' R)
    (h : ∀ e w'', R e w'' → ∃ v, e = .returned v ∧ wpOpsIn Fence.wide n P ops Q rest (a.put o.dst v) w'') : wpOpsIn Fence.wide n P ops Q (i :: rest) a w :=
  opsIn_wp ho hg ⟨fun _ _ => trivial, by
    show o.uponIn Fence.wide n P a _ Q ((execOp a.eval o).run P w); rw [hrun]
    refine ⟨fun hx => by simp [Fence.wide] at hx, callsIn_wide.2 (hc.mono fun e w'' hr => ?_)⟩
    obtain ⟨v, rfl, hk⟩ := h e w'' hr
    exact hk⟩
theorem RoundIn.room {n m : Nat} {l : Nat} {f : FuncId} {tmps : Array Value} {asg body : Code} {R : Ending → World → Prop} (h : RoundIn Fence.wide n P l f tmps asg body w R) : RoundIn Fence.wide m P l f tmps asg body w R :=
  ⟨h.1, fun c cs _ => h.2 c cs (room_wide _)⟩
theorem RoundIn.mono' {n : Nat} {l : Nat} {f : FuncId} {tmps : Array Value} {asg body : Code} {R R' : Ending → World → Prop} (h : RoundIn Fence.wide n P l f tmps asg body w R) (hr : ∀ e w, R e w → R' e w) : RoundIn Fence.wide n P l f tmps asg body w R' :=
  ⟨h.1, fun c cs hx => let ⟨e, w', h1, h2⟩ := h.2 c cs hx; ⟨e, w', hr _ _ h1, h2⟩⟩
theorem opsIn_round {l : Nat} {f : FuncId} {tmps : Array Value} {asg body : Code} {R : Ending → World → Prop} (ho : ops[i]? = some o) (hg : o.guard = none) (hrun : (execOp a.eval o).run P w = .ok (.round l f tmps asg body) w') (hc : RoundIn Fence.wide (n - 1) P l f tmps asg body w' R)
    (h : ∀ e w'', R e w'' → ∃ v, e = .returned v ∧ wpOpsIn Fence.wide n P ops Q rest (a.put o.dst v) w'') : wpOpsIn Fence.wide n P ops Q (i :: rest) a w :=
  opsIn_wp ho hg ⟨fun _ _ => trivial, by
    show o.uponIn Fence.wide n P a _ Q ((execOp a.eval o).run P w); rw [hrun]
    refine ⟨fun hx => by simp [Fence.wide] at hx, RoundIn.mono' hc fun e w'' hr => ?_⟩
    obtain ⟨v, rfl, hk⟩ := h e w'' hr
    exact hk⟩
end

theorem states_iter {tf t tb tp : TypeId} {g f : FuncId} {p1 p2 : String} {fn : Func} (hf : P.funcs[f]? = some fn) (hb : fn.body = some (itCode tf t tb tp g p1 p2)) (hnt : fn.ntmps = 10) (hres : fn.results = #[])
    (hg : ∀ (args : Array Value) (w : World), (callFunc g args).run P w = .ok (.enter g args) w)
    (c0 c1 : Addr) (l N : Nat) (J JY : Nat → World → Prop) (Jx : World → Prop) (st : Nat → Value) (pv : Value)
    (hload : ∀ k W, J k W → (Instr.loadAt t (.pointer (some c0))).run P W = .ok (st k) W)
    (hyield : ∀ k W, k < N → J k W → YieldAt Fence.wide 0 P l #[st k] W fun e W' => (e = .returned (.bool true) ∧ k + 1 < N ∧ JY k W') ∨ (e = .returned (.bool false) ∧ Jx W'))
    (hloadp : ∀ k W, JY k W → (Instr.loadAt tp (.pointer (some c1))).run P W = .ok pv W)
    (hload2 : ∀ k W, JY k W → (Instr.loadAt t (.pointer (some c0))).run P W = .ok (st k) W)
    (hnext : ∀ k W, JY k W → Calls P g #[pv, st k] W fun e W' => e = .returned (st (k + 1)) ∧ ∃ W'', (Instr.storeAt t (.pointer (some c0)) (st (k + 1))).run P W' = .ok () W'' ∧ J (k + 1) W'')
    (W : World) (hN : 0 < N) (h0 : J 0 W) :
    CallsIn Fence.wide 0 P f #[.func (.yield l) #[] #[], .pointer (some c0), .pointer (some c1)] W fun e W' => (∃ v, e = .returned v) ∧ Jx W' := by
  refine callsIn_of_wp hf hb trivial ?_
  rw [hnt]
  refine wpIn_block (wpIn_loop_rounds N ?_)
  have key : ∀ (m k : Nat) (a4 a5 a6 a7 a8 a9 : Value) (W : World), k + m = N → 0 < m → J k W →
      Code.roundsIn Fence.wide 0 P (.seq (.seq (.region 0 (itOps tf t tb p1) false) (.cond (.tmp 6) .skip (.exit 0))) (.block 1 (.region 1 (stOps tp t g p2) false)))
        (Exit.inBlock 0 (bodyPost P fn fun e W' => (∃ v, e = .returned v) ∧ Jx W')) m { tmps := itTmps l (.pointer (some c0)) (.pointer (some c1)) a4 a5 a6 a7 a8 a9, defers := [] } W := by
    intro m
    induction m with
    | zero => intro k a4 a5 a6 a7 a8 a9 W _ hm; omega
    | succ m ih =>
      intro k a4 a5 a6 a7 a8 a9 W hkm _ hJ
      rw [roundsIn_succ]
      refine wpIn_seq (wpIn_seq (wpIn_region ?_))
      obtain ⟨fn', tmps', asg', body', hy, hR⟩ := hyield k W (by omega) hJ
      refine opsIn_value rfl rfl (v := .func (.yield l) #[] #[]) (w' := W) (by simp [execOp, itOps, stOps, itTmps, Act.eval]) ?_
      refine opsIn_value rfl rfl (v := st k) (w' := W) (by
        have := hload k W hJ
        simp [execOp, itOps, stOps, itTmps, Act.eval, Act.put, this]) ?_
      refine opsIn_round rfl rfl (l := l) (f := fn') (tmps := tmps') (asg := asg') (body := body') (w' := W) (by
        simp [execOp, itOps, stOps, itTmps, Act.eval, Act.put, resolve, Deferred.ofValue, Sem.run_bind, invoke, hy]) hR ?_
      rintro e W1 (⟨rfl, hk1, hJ1⟩ | ⟨rfl, hJ1⟩)
      · refine ⟨_, rfl, ?_⟩
        refine wpIn_cond_true (by simp [Act.eval, Act.put, itTmps, itOps, stOps]) (wpIn_skip ?_)
        refine wpIn_block (wpIn_region ?_)
        refine opsIn_value rfl rfl (v := pv) (w' := W1) (by
          have := hloadp k W1 hJ1
          simp [execOp, itOps, stOps, itTmps, Act.eval, Act.put, this]) ?_
        refine opsIn_value rfl rfl (v := st k) (w' := W1) (by
          have := hload2 k W1 hJ1
          simp [execOp, itOps, stOps, itTmps, Act.eval, Act.put, this]) ?_
        refine opsIn_call rfl rfl (f := g) (args := #[pv, st k]) (w' := W1) (by
          simp [execOp, itOps, stOps, itTmps, Act.eval, Act.put, resolve, Deferred.ofValue, Sem.run_bind, invoke, hg]) (hnext k W1 hJ1) ?_
        rintro e W2 ⟨rfl, W3, hs, hJ2⟩
        refine ⟨_, rfl, ?_⟩
        refine opsIn_skip rfl rfl (w' := W3) (by
          simp [execOp, itOps, stOps, itTmps, Act.eval, Act.put, hs]) ?_
        exact ih (k + 1) _ _ _ _ _ _ W3 (by omega) (by omega) hJ2
      · refine ⟨_, rfl, ?_⟩
        refine wpIn_cond_false (by simp [Act.eval, Act.put, itTmps, itOps, stOps]) (wpIn_exit ?_)
        simp only [Exit.then, Exit.inBlock, if_true]
        refine ⟨rfl, .tuple #[], ?_, ⟨_, rfl⟩, hJ1⟩
        simp [results, hres]
  exact key N 0 undef undef undef undef undef undef W (by omega) hN h0
end
end Go.Aw
end
section
/-
  A range over such an iterator.
-/
namespace Go.Aw
section
variable {P : Program} {T : Tab}

theorem Rel.putObj {μ : List Nat} {H : List Blk} {w : World} (h : Rel μ H w) {b : Nat} (hb : b ∉ μ) (o : Obj) : Rel μ H (w.putObj b o) := by
  have hsame : ∀ b', b' ∈ μ → (w.putObj b o).heap[b']? = w.heap[b']? := fun b' hm => World.putObj_heap_other (fun e => hb (e ▸ hm))
  refine ⟨h.len, h.nd, fun b' hm => by rw [World.putObj_size]; exact h.lt b' hm, fun i b' c e hH hμ => ?_, fun i b' f hH hμ o' v hf => ?_⟩
  · rw [hsame b' (List.mem_of_getElem? hμ)]; exact h.blk i b' c e hH hμ
  · obtain ⟨v', h1, h2⟩ := h.rob i b' f hH hμ o' v hf
    exact ⟨v', by rw [cell?_of_heap_eq (hsame b' (List.mem_of_getElem? hμ))]; exact h1, h2⟩

theorem Ext.putObj {μ μ' : List Nat} {H H' : List Blk} {w w' : World} (h : Ext μ H w μ' H' w') {b : Nat} (hb : w.heap.size ≤ b) (o : Obj) : Ext μ H w μ' H' (w'.putObj b o) :=
  ⟨h.pre, by rw [World.putObj_size]; exact h.size, h.os, h.tape, h.output, fun b' hb' hn => by rw [World.putObj_heap_other (by omega)]; exact h.same b' hb' hn, h.own⟩

theorem not_mem_ext {μ μ' : List Nat} {H H' : List Blk} {w w' : World} (h : Ext μ H w μ' H' w') {b : Nat} (hb : b < w.heap.size) (hn : b ∉ μ) : b ∉ μ' := by
  obtain ⟨ext, rfl, he⟩ := h.pre
  intro hm
  rcases List.mem_append.1 hm with h1 | h1
  · exact hn h1
  · have := he b h1; omega

theorem not_own {μ : List Nat} {H : List Blk} {b : Nat} (hn : b ∉ μ) : ¬ Own μ H b := fun ⟨_, _, _, hi, _⟩ => hn (List.mem_of_getElem? hi)

def markOf (D : Nat) : Deferred := { target := .collected D, args := #[] }

/-- What a round's body must reach: it goes on (and the heap, faded, is 'HB'), or it leaves by a jump. -/
def KRound (go : Prop) (H0 HB : List Blk) (KX : Code → List Blk → Prop) : AK := fun e ts H => match e with
  | .normal => go ∧ ∃ ts3, Fade H0 ts H ts3 HB
  | .ret => KX .ret H
  | .exit id => KX (.exit id) H

theorem range_rule (hT : TabOk P T) (hs : Hints) {g : Operand} {p0 : Tmp} {asg body : Code} {Q : Exit → Act → World → Prop} {a : Act} {w : World} {μ : List Nat} {ts : List Value} {H : List Blk}
    (hv : SRs μ ts a.tmps.toList) (hr : Rel μ H w)
    {tf t tb tp : TypeId} {nx f : FuncId} {q1 q2 : String} {fn : Func} (hf : P.funcs[f]? = some fn) (hb : fn.body = some (itCode tf t tb tp nx q1 q2)) (hnt : fn.ntmps = 10) (hres : fn.results = #[])
    (hg : ∀ (args : Array Value) (w : World), (callFunc nx args).run P w = .ok (.enter nx args) w) (henter : ∀ (args : Array Value) (w : World), (callFunc f args).run P w = .ok (.enter f args) w)
    (c0 c1 : Addr) (heval : a.eval g = .func (.func f) #[] #[.pointer (some c0), .pointer (some c1)])
    (N : Nat) (hN : 0 < N) (Hk HB : Nat → List Blk) (st : Nat → Value) (pv : Value) (hst : ∀ k, VR μ (st k) (st k)) (hH0 : Hk 0 = H) (hlk : ∀ k, (Hk k).length = H.length) (hlb : ∀ k, (HB k).length = H.length)
    (hload : ∀ k W, Rel μ (Hk k) W → (Instr.loadAt t (.pointer (some c0))).run P W = .ok (st k) W)
    (hloadp : ∀ k W, Rel μ (HB k) W → (Instr.loadAt tp (.pointer (some c1))).run P W = .ok pv W)
    (hload2 : ∀ k W, Rel μ (HB k) W → (Instr.loadAt t (.pointer (some c0))).run P W = .ok (st k) W)
    (hnext : ∀ k W, Rel μ (HB k) W → Calls P nx #[pv, st k] W fun e W' => e = .returned (st (k + 1)) ∧ ∃ W'', (Instr.storeAt t (.pointer (some c0)) (st (k + 1))).run P W' = .ok () W'' ∧ Rel μ (Hk (k + 1)) W'' ∧ Ext μ (HB k) W μ (Hk (k + 1)) W'')
    (KX : Code → List Blk → Prop) (hpa : plainC asg = true) (hpb : plainC body = true) (hoa : codeOk T hs asg = true) (hob : codeOk T hs body = true)
    (hround : ∀ k, k < N → AWp P T hs asg (fun e ts1 H1 => match e with | .normal => AWp P T hs body (KRound (k + 1 < N) (Hk k) (HB k) KX) ts1 H1 | _ => False) (ts.set p0 (st k)) (Hk k))
    (hQ : ∀ (c : Code) (μ' : List Nat) (H' : List Blk) (D : Nat) (W : World), w.heap.size ≤ D → D ∉ μ' → W.heap[D]? = some (.deferred (some [])) → Rel μ' H' W → Ext μ H w μ' H' W → KX c H' →
      c.wpIn Fence.wide 0 P Q { a with defers := markOf D :: a.defers } W) :
    (Code.rangeFunc g #[p0] asg body).wpIn Fence.wide 0 P Q a w := by
  refine wpIn_rangeFunc ?_
  intro fnn hfn
  obtain ⟨rec, hrec⟩ : ∃ rec : LoopState → Option Code → Loop, rec = fun st pe => { state := st, pending := pe, fn := fnn, tmps := a.tmps, params := #[p0], assign := asg, body, defers := w.heap.size } := ⟨_, rfl⟩
  obtain ⟨W1, hW1⟩ : ∃ W1, (w.alloc (.deferred (some []))).alloc (.loop (rec .ready none)) = W1 := ⟨_, rfl⟩
  have hD : w.heap.size ∉ μ := fun h => Nat.lt_irrefl _ (hr.lt _ h)
  have hL : w.heap.size + 1 ∉ μ := fun h => by have := hr.lt _ h; omega
  obtain ⟨r1, x1⟩ := hr.bigger (.deferred (some []))
  obtain ⟨r2, x2⟩ := r1.bigger (.loop (rec .ready none))
  rw [hW1] at r2 x2
  have hx1 : Ext μ H w μ H W1 := x1.trans hr.len r1.len x2
  have hL1 : W1.heap[w.heap.size + 1]? = some (.loop (rec .ready none)) := by
    rw [← hW1]; have := World.alloc_heap_new (w.alloc (.deferred (some []))) (.loop (rec .ready none)); rwa [World.size_alloc] at this
  have hK1 : W1.heap[w.heap.size]? = some (.deferred (some [])) := by
    rw [← hW1]; exact (heap_alloc_old _ _ (by simp)).trans (World.alloc_heap_new w _)
  refine ⟨w.heap.size + 1, [{ target := .collected w.heap.size, args := #[] }], W1, { target := .fn (.func f) #[.pointer (some c0), .pointer (some c1)], args := #[.func (.yield (w.heap.size + 1)) #[] #[]] }, W1, f,
    #[.func (.yield (w.heap.size + 1)) #[] #[], .pointer (some c0), .pointer (some c1)], W1, ?_, ?_, fun _ _ => trivial, ?_, fun h => by simp [Fence.wide] at h, ?_⟩
  · rw [← hW1, hrec]; exact run_enterLoop_outer _ _ _ _ _
  · simp only [resolve, heval]
    simp [Act.eval, Deferred.ofValue, Sem.run_bind]
  · simp [invoke, henter]
  · refine (states_iter hf hb hnt hres hg c0 c1 (w.heap.size + 1) N
      (fun k W => Rel μ (Hk k) W ∧ Ext μ H w μ (Hk k) W ∧ W.heap[w.heap.size + 1]? = some (.loop (rec .ready none)) ∧ W.heap[w.heap.size]? = some (.deferred (some [])))
      (fun k W => Rel μ (HB k) W ∧ Ext μ H w μ (HB k) W ∧ W.heap[w.heap.size + 1]? = some (.loop (rec .ready none)) ∧ W.heap[w.heap.size]? = some (.deferred (some [])))
      (fun W => ∃ c μ' H', KX c H' ∧ Rel μ' H' W ∧ Ext μ H w μ' H' W ∧ W.heap[w.heap.size + 1]? = some (.loop (rec .done (some c))) ∧ W.heap[w.heap.size]? = some (.deferred (some [])) ∧ w.heap.size ∉ μ' ∧ w.heap.size + 1 ∉ μ')
      st pv (fun k W h => hload k W h.1) ?_ (fun k W h => hloadp k W h.1) (fun k W h => hload2 k W h.1) ?_ W1 hN ⟨by rw [hH0]; exact r2, by rw [hH0]; exact hx1, hL1, hK1⟩).mono ?_
    · rintro k W hk ⟨hR, hX, hl, hd⟩
      have hlt : w.heap.size + 1 < W.heap.size := (Array.getElem?_eq_some_iff.1 hl).1
      have hy := run_yield (P := P) (args := #[st k]) hl (by rw [hrec]; rfl)
      rw [hrec] at hy
      have hz : (#[p0].zip #[st k]).foldl (fun tmps (t, a) => tmps.setIfInBounds t a) a.tmps = a.tmps.setIfInBounds p0 (st k) := by simp
      dsimp only at hy
      rw [hz] at hy
      refine ⟨fnn, _, asg, body, hy, roundIn_of_wpIn trivial ?_⟩
      have hv0 : SRs μ (ts.set p0 (st k)) (a.tmps.setIfInBounds p0 (st k)).toList := by simpa using hv.set p0 (hst k)
      have h1 := code_in (P := P) (r := some (w.heap.size + 1)) (n := 0) (ds := []) hT hs asg _ _ (Hk k) hpa hoa (hround k hk) μ { tmps := a.tmps.setIfInBounds p0 (st k), defers := [] } W hv0 hR rfl
      refine wpIn_mono (F := wideR (some (w.heap.size + 1))) h1 ?_
      rintro e a1 Wa ho
      cases e with
      | normal =>
        obtain ⟨μ1, ts1, H1, hv1, hr1, hxa, hd1, hbody⟩ := ho
        have hDa : w.heap.size ∉ μ1 := not_mem_ext hxa (by omega) hD
        have hLa : w.heap.size + 1 ∉ μ1 := not_mem_ext hxa hlt hL
        have hla : Wa.heap[w.heap.size + 1]? = some (.loop (rec .ready none)) := (hxa.same _ hlt (not_own hL)).trans hl
        have hda : Wa.heap[w.heap.size]? = some (.deferred (some [])) := (hxa.same _ (by omega) (not_own hD)).trans hd
        have hlta : w.heap.size + 1 < Wa.heap.size := (Array.getElem?_eq_some_iff.1 hla).1
        refine ⟨_, run_beginRound hla (by rw [hrec]), ?_⟩
        obtain ⟨Wb, hWb⟩ : ∃ Wb, Wa.putObj (w.heap.size + 1) (.loop { rec .ready none with state := .busy }) = Wb := ⟨_, rfl⟩
        rw [hWb]
        have hrb : Rel μ1 H1 Wb := by rw [← hWb]; exact hr1.putObj hLa _
        have hxb : Ext μ H w μ1 H1 Wb := by rw [← hWb]; exact (hX.trans hr.len hR.len hxa).putObj (by omega) _
        have hlb' : Wb.heap[w.heap.size + 1]? = some (.loop { rec .ready none with state := .busy }) := by rw [← hWb]; exact World.putObj_heap_same hlta
        have hdb : Wb.heap[w.heap.size]? = some (.deferred (some [])) := by rw [← hWb]; exact (World.putObj_heap_other (by omega)).trans hda
        have hltb : w.heap.size + 1 < Wb.heap.size := (Array.getElem?_eq_some_iff.1 hlb').1
        have h2 := code_in (P := P) (r := some (w.heap.size + 1)) (n := 0) (ds := []) hT hs body _ _ H1 hpb hob hbody μ1 a1 Wb hv1 hrb hd1
        refine wpIn_mono (F := wideR (some (w.heap.size + 1))) h2 ?_
        have fin : ∀ (jump : Option Code) (μ3 : List Nat) (H3 : List Blk) (W3 : World), Rel μ3 H3 W3 → Ext μ1 H1 Wb μ3 H3 W3 →
            (Instr.endRound (w.heap.size + 1) jump).run P W3 = .ok (.bool jump.isNone) (W3.putObj (w.heap.size + 1) (.loop (rec (if jump.isNone then .ready else .done) jump))) ∧
            Rel μ3 H3 (W3.putObj (w.heap.size + 1) (.loop (rec (if jump.isNone then .ready else .done) jump))) ∧
            Ext μ H w μ3 H3 (W3.putObj (w.heap.size + 1) (.loop (rec (if jump.isNone then .ready else .done) jump))) ∧
            (W3.putObj (w.heap.size + 1) (.loop (rec (if jump.isNone then .ready else .done) jump))).heap[w.heap.size + 1]? = some (.loop (rec (if jump.isNone then .ready else .done) jump)) ∧
            (W3.putObj (w.heap.size + 1) (.loop (rec (if jump.isNone then .ready else .done) jump))).heap[w.heap.size]? = some (.deferred (some [])) ∧
            w.heap.size ∉ μ3 ∧ w.heap.size + 1 ∉ μ3 := fun jump μ3 H3 W3 hr3 hx3 => by
          have hl3 := (hx3.same _ hltb (not_own hLa)).trans hlb'
          have hd3 := (hx3.same _ (by omega) (not_own hDa)).trans hdb
          have hL3 := not_mem_ext hx3 hltb hLa
          have hD3 := not_mem_ext hx3 (by omega : w.heap.size < Wb.heap.size) hDa
          have he := run_endRound (P := P) jump hl3
          rw [hrec] at he
          exact ⟨by rw [hrec]; exact he, hr3.putObj hL3 _, (hxb.trans hr.len hr1.len hx3).putObj (by omega) _, World.putObj_heap_same (Array.getElem?_eq_some_iff.1 hl3).1, (World.putObj_heap_other (by omega)).trans hd3, hD3, hL3⟩
        rintro e a3 W3 ho3
        cases e with
        | normal =>
          obtain ⟨μ3, ts3, H3, hv3, hr3, hx3, _, hgo, ts4, hfade⟩ := ho3
          obtain ⟨he, hr4, hx4, hl4, hd4, _, _⟩ := fin none μ3 H3 W3 hr3 hx3
          have hxk : Ext μ (Hk k) W μ3 H3 (W3.putObj (w.heap.size + 1) (.loop (rec .ready none))) := by
            refine hxa.trans hR.len hr1.len ⟨?_, ?_, ?_, ?_, ?_, ?_, hx3.own⟩
            · have := hx3.pre; rw [← hWb, World.putObj_size] at this; exact this
            · have := hx3.size; rw [← hWb, World.putObj_size] at this; rw [World.putObj_size]; exact this
            · have := hx3.os; rw [← hWb] at this; exact this
            · have := hx3.tape; rw [← hWb] at this; exact this
            · have := hx3.output; rw [← hWb] at this; exact this
            · intro b hb' hno
              by_cases hbl : b = w.heap.size + 1
              · subst hbl; rw [hla]; exact hl4
              · have e1 : Wb.heap[b]? = Wa.heap[b]? := by rw [← hWb]; exact World.putObj_heap_other hbl
                rw [World.putObj_heap_other hbl, hx3.same b (by rw [← hWb, World.putObj_size]; exact hb') hno, e1]
          obtain ⟨μ5, _, hr5, hx5⟩ := fade_sound hR hv3 hr4 hxk hfade
          have hμ5 : μ5 = μ := by
            obtain ⟨ext, rfl, _⟩ := hx5.pre
            have h5 := hr5.len
            rw [hlb, List.length_append, ← hr.len] at h5
            have : ext = [] := List.length_eq_zero_iff.1 (by omega)
            rw [this, List.append_nil]
          subst hμ5
          exact ⟨_, _, he, .inl ⟨rfl, hgo, hr5, hX.trans hr.len hR.len hx5, hl4, hd4⟩⟩
        | ret =>
          obtain ⟨μ3, ts3, H3, hv3, hr3, hx3, _, hkx⟩ := ho3
          obtain ⟨he, hr4, hx4, hl4, hd4, hD4, hL4⟩ := fin (some .ret) μ3 H3 W3 hr3 hx3
          exact ⟨_, _, he, .inr ⟨rfl, .ret, μ3, H3, hkx, hr4, hx4, hl4, hd4, hD4, hL4⟩⟩
        | exit id =>
          obtain ⟨μ3, ts3, H3, hv3, hr3, hx3, _, hkx⟩ := ho3
          obtain ⟨he, hr4, hx4, hl4, hd4, hD4, hL4⟩ := fin (some (.exit id)) μ3 H3 W3 hr3 hx3
          exact ⟨_, _, he, .inr ⟨rfl, .exit id, μ3, H3, hkx, hr4, hx4, hl4, hd4, hD4, hL4⟩⟩
        | goto t => exact ho3.elim
        | panic ch => exact ho3.elim
        | outgrown => exact ho3.elim
      | exit id => obtain ⟨_, _, _, _, _, _, _, hk'⟩ := ho; exact hk'.elim
      | ret => obtain ⟨_, _, _, _, _, _, _, hk'⟩ := ho; exact hk'.elim
      | goto t => exact ho.elim
      | panic ch => exact ho.elim
      | outgrown => exact ho.elim
    · rintro k W ⟨hR, hX, hl, hd⟩
      refine (hnext k W hR).mono ?_
      rintro e W' ⟨rfl, W'', hs', hR', hX'⟩
      have hlt := (Array.getElem?_eq_some_iff.1 hl).1
      exact ⟨rfl, W'', hs', hR', hX.trans hr.len hR.len hX', (hX'.same _ hlt (not_own hL)).trans hl, (hX'.same _ (by omega) (not_own hD)).trans hd⟩
    · rintro e W ⟨⟨v, rfl⟩, c, μ', H', hkx, hR, hX, hl, hd, hDn, hLn⟩
      refine ⟨some c, _, by have := run_endLoop (P := P) hl (by rw [hrec]; simp); rw [hrec] at this; exact this, ?_⟩
      exact hQ c μ' H' w.heap.size _ (Nat.le_refl _) hDn ((World.putObj_heap_other (by omega)).trans hd) (hR.putObj hLn _) (hX.putObj (by omega) _) hkx
end
end Go.Aw
end
section
/-
  Functions with one range over a function.
-/
namespace Go.Aw
section
variable {P : Program} {T : Tab}

def oneR : Code → Bool
  | .rangeFunc _ _ _ _ => true
  | .seq x y => oneR x || oneR y
  | .block _ c => oneR c
  | _ => false

/-- The marks that a range leaves behind. -/
def Marks (w0 : World) (ds : List Deferred) (μ : List Nat) (w : World) : Prop :=
  ds = [] ∨ ∃ D, ds = [markOf D] ∧ w0.heap.size ≤ D ∧ D ∉ μ ∧ w.heap[D]? = some (.deferred (some []))
def OutM (μ0 : List Nat) (H0 : List Blk) (w0 : World) (k : List Value → List Blk → Prop) (a : Act) (w : World) : Prop :=
  ∃ (μ : List Nat) (ts : List Value) (H : List Blk), SRs μ ts a.tmps.toList ∧ Rel μ H w ∧ Ext μ0 H0 w0 μ H w ∧ Marks w0 a.defers μ w ∧ k ts H
def OutXM (μ0 : List Nat) (H0 : List Blk) (w0 : World) (K : AK) : Exit → Act → World → Prop
  | .normal, a, w => OutM μ0 H0 w0 (K .normal) a w
  | .exit id, a, w => OutM μ0 H0 w0 (K (.exit id)) a w
  | .ret, a, w => OutM μ0 H0 w0 (K .ret) a w
  | _, _, _ => False

/-- A range over a function, as it is met: with no deferred calls yet. -/
structure ARange (P : Program) (T : Tab) (hs : Hints) (c : Code) (K : AK) (ts : List Value) (H : List Blk) : Prop where
  out : ∀ (μ : List Nat) (a : Act) (w : World), SRs μ ts a.tmps.toList → Rel μ H w → a.defers = [] → c.wpIn Fence.wide 0 P (OutXM μ H w K) a w

def AWpO (P : Program) (T : Tab) (hs : Hints) : Code → AK → List Value → List Blk → Prop
  | .rangeFunc g ps x y, K, ts, H => ARange P T hs (.rangeFunc g ps x y) K ts H
  | .seq x y, K, ts, H => match oneR x with
    | true => AWpO P T hs x (fun e ts H => match e with | .normal => AWp P T hs y K ts H | e => K e ts H) ts H
    | false => AWp P T hs x (fun e ts H => match e with | .normal => AWpO P T hs y K ts H | e => K e ts H) ts H
  | .block id c, K, ts, H => AWpO P T hs c (fun e ts H => match e with | .exit j => (match Nat.beq j id with | true => K .normal ts H | false => K (.exit j) ts H) | e => K e ts H) ts H
  | _, _, _, _ => False

def okO (T : Tab) (hs : Hints) : Code → Bool
  | .rangeFunc _ _ _ _ => true
  | .seq x y => match oneR x with
    | true => okO T hs x && (plainC y && codeOk T hs y)
    | false => codeOk T hs x && okO T hs y
  | .block _ c => okO T hs c
  | _ => false

theorem Marks.ext {w0 w1 w2 : World} {ds : List Deferred} {μ1 μ2 : List Nat} {H1 H2 : List Blk} (h : Marks w0 ds μ1 w1) (hx : Ext μ1 H1 w1 μ2 H2 w2) : Marks w0 ds μ2 w2 := by
  rcases h with h | ⟨D, h1, h2, h3, h4⟩
  · exact .inl h
  · have hlt := (Array.getElem?_eq_some_iff.1 h4).1
    exact .inr ⟨D, h1, h2, not_mem_ext hx hlt h3, (hx.same _ hlt (not_own h3)).trans h4⟩

theorem Marks.later {w0 w1 w2 : World} {ds : List Deferred} {μ : List Nat} (h : Marks w1 ds μ w2) (hs : w0.heap.size ≤ w1.heap.size) : Marks w0 ds μ w2 := by
  rcases h with h | ⟨D, h1, h2, h3, h4⟩
  · exact .inl h
  · exact .inr ⟨D, h1, by omega, h3, h4⟩

theorem OutXM.of {μ0 : List Nat} {H0 : List Blk} {w0 : World} {K : AK} {e : Exit} {a : Act} {w : World} (h : OutX μ0 H0 w0 K e a w) : OutXM μ0 H0 w0 K e a w := by
  cases e <;> first | exact False.elim h | (obtain ⟨μ, ts, H, h1, h2, h3, h4, h5⟩ := h; exact ⟨μ, ts, H, h1, h2, h3, .inl h4, h5⟩)

theorem codeO_sound (hT : TabOk P T) (hs : Hints) : ∀ (c : Code) (K : AK) (ts : List Value) (H : List Blk), okO T hs c = true → AWpO P T hs c K ts H →
    ∀ (μ : List Nat) (a : Act) (w : World), SRs μ ts a.tmps.toList → Rel μ H w → a.defers = [] → c.wpIn Fence.wide 0 P (OutXM μ H w K) a w := by
  intro c
  induction c with
  | rangeFunc g ps x y _ _ => intro K ts H _ h μ a w hv hr hd; exact h.out μ a w hv hr hd
  | seq x y ihx ihy =>
    intro K ts H ho h μ a w hv hr hd
    unfold AWpO at h
    unfold okO at ho
    cases hx : oneR x with
    | true =>
      rw [hx] at h ho
      simp only [Bool.and_eq_true] at ho
      refine wpIn_seq (wpIn_mono (ihx _ ts H ho.1 h μ a w hv hr hd) fun e a1 w1 h1 => ?_)
      cases e with
      | normal =>
        obtain ⟨μ1, ts1, H1, hv1, hr1, hx1, hm1, h1⟩ := h1
        refine wpIn_mono (F := wideR none) (code_in (r := none) (n := 0) (ds := a1.defers) hT hs y K ts1 H1 ho.2.1 ho.2.2 h1 μ1 a1 w1 hv1 hr1 rfl) fun e a2 w2 h2 => ?_
        cases e <;> first | exact False.elim h2 | (obtain ⟨μ2, ts2, H2, hv2, hr2, hx2, hd2, h2⟩ := h2; exact ⟨μ2, ts2, H2, hv2, hr2, hx1.trans hr.len hr1.len hx2, by rw [hd2]; exact hm1.ext hx2, h2⟩)
      | exit id => exact h1
      | ret => exact h1
      | goto l => exact h1
      | panic c => exact h1
      | outgrown => exact h1
    | false =>
      rw [hx] at h ho
      simp only [Bool.and_eq_true] at ho
      refine wpIn_seq (wpIn_mono (wpIn_wide.2 (code_sound hT hs x _ ts H ho.1 h μ a w hv hr hd)) fun e a1 w1 h1 => ?_)
      cases e with
      | normal =>
        obtain ⟨μ1, ts1, H1, hv1, hr1, hx1, hd1, h1⟩ := h1
        refine wpIn_mono (ihy K ts1 H1 ho.2 h1 μ1 a1 w1 hv1 hr1 hd1) fun e a2 w2 h2 => ?_
        cases e <;> first | exact False.elim h2 | (obtain ⟨μ2, ts2, H2, hv2, hr2, hx2, hm2, h2⟩ := h2; exact ⟨μ2, ts2, H2, hv2, hr2, hx1.trans hr.len hr1.len hx2, hm2.later hx1.size, h2⟩)
      | exit id => exact OutXM.of h1
      | ret => exact OutXM.of h1
      | goto l => exact h1
      | panic c => exact h1
      | outgrown => exact h1
  | block id c ih =>
    intro K ts H ho h μ a w hv hr hd
    refine wpIn_block (wpIn_mono (ih _ ts H ho h μ a w hv hr hd) fun e a1 w1 h1 => ?_)
    cases e with
    | normal => exact h1
    | exit j =>
      simp only [OutXM, Exit.inBlock] at h1 ⊢
      cases hj : Nat.beq j id with
      | true =>
        simp only [hj] at h1
        rw [if_pos (Nat.eq_of_beq_eq_true hj)]
        exact h1
      | false =>
        simp only [hj] at h1
        rw [if_neg (fun e => by rw [e] at hj; simp at hj)]
        exact h1
    | ret => exact h1
    | goto l => exact h1
    | panic c => exact h1
    | outgrown => exact h1
  | _ => intro K ts H ho; simp [okO] at ho

theorem fin_results (hT : TabOk P T) {fn : Func} {R : Value → List Blk → Prop} {μ μ1 : List Nat} {H H1 : List Blk} {w w' : World} {ts1 : List Value} {tmps : Array Value} (hv1 : SRs μ1 ts1 tmps.toList) (hr1 : Rel μ1 H1 w') (hx1 : Ext μ H w μ1 H1 w')
    (h2 : resF T H1 ts1 fn.results.toList fun vs => match vs with | [v] => R v H1 | vs => R (.tuple vs.toArray) H1) :
    ∃ v, (results fn tmps).run P w' = .ok v w' ∧ ∃ (v' cv : Value) (μ' : List Nat) (H' : List Blk), Ending.returned v = .returned cv ∧ VR μ' v' cv ∧ Rel μ' H' w' ∧ Ext μ H w μ' H' w' ∧ R v' H' := by
  obtain ⟨vs, cvs, hk, hvs, hrun⟩ := res_sound hT hv1 hr1 _ h2
  have hm : (fn.results.mapM (resStep tmps)).run P w' = .ok cvs.toArray w' := by
    rw [Array.mapM_eq_mapM_toList]
    simp [hrun]
  cases vs with
  | nil =>
    have hc0 : cvs = [] := by have := hvs.1; simpa using this.symm
    subst hc0
    exact ⟨.tuple #[], by rw [results_eq]; simp [hm], _, _, μ1, H1, rfl, VR.tups VRs.nil, hr1, hx1, hk⟩
  | cons v vs =>
    cases cvs with
    | nil => exact absurd hvs.1 (by simp)
    | cons cv cvs =>
      cases vs with
      | nil =>
        have hc0 : cvs = [] := by have := hvs.1; simpa using this.symm
        subst hc0
        exact ⟨cv, by rw [results_eq]; simp [hm], _, _, μ1, H1, rfl, hvs.2 0 _ _ rfl rfl, hr1, hx1, hk⟩
      | cons v2 vs =>
        cases cvs with
        | nil => exact absurd hvs.1 (by simp)
        | cons cv2 cvs => exact ⟨.tuple (cv :: cv2 :: cvs).toArray, by rw [results_eq]; simp [hm], _, _, μ1, H1, rfl, VR.tups hvs, hr1, hx1, hk⟩

theorem ACalls.introO (hT : TabOk P T) (hs : Hints) {f : FuncId} {fn : Func} {c : Code} {args : List Value} {H : List Blk} {R : Value → List Blk → Prop} (hf : P.funcs[f]? = some fn) (hb : fn.body = some c)
    (hcall : ∀ (args : Array Value) (w : World), (callFunc f args).run P w = .ok (.enter f args) w) (hok : okO T hs c = true)
    (h : AWpO P T hs c (postF T fn.results.toList R) (args ++ List.replicate (fn.ntmps - args.length) undef) H) : ACalls P f args H R := by
  refine ⟨fun μ w cargs hv hr => ⟨hcall _ _, (callsIn_wide (n := 0)).1 (callsIn_of_wp_marks hf hb trivial ?_)⟩⟩
  have hv' : VRs μ (args ++ List.replicate (fn.ntmps - args.length) undef) ((cargs.toArray ++ Array.replicate (fn.ntmps - cargs.toArray.size) undef).toList) := by
    simp only [Array.toList_append, Array.toList_replicate, List.size_toArray]
    rw [hv.1]
    exact hv.append (VRs.replicate _ VR.undef)
  refine wpIn_mono (codeO_sound hT hs c _ _ H hok h μ _ w hv'.sr hr rfl) fun e a w' ho => ?_
  have fin : ∀ {e : Ex}, (∀ id, e ≠ .exit id) → OutM μ H w (postF T fn.results.toList R e) a w' →
      LeavesInM Fence.wide 0 P fn a.tmps (fun e w' => ∃ (v' cv : Value) (μ' : List Nat) (H' : List Blk), e = .returned cv ∧ VR μ' v' cv ∧ Rel μ' H' w' ∧ Ext μ H w μ' H' w' ∧ R v' H') a.defers .returning w' := fun {e} he ho => by
    obtain ⟨μ1, ts1, H1, hv1, hr1, hx1, hm1, h1⟩ := ho
    have h2 : resF T H1 ts1 fn.results.toList fun vs => match vs with | [v] => R v H1 | vs => R (.tuple vs.toArray) H1 := by
      cases e with
      | exit id => exact absurd rfl (he id)
      | normal => exact h1
      | ret => exact h1
    rcases hm1 with hd | ⟨D, hd, hD1, hD2, hD3⟩
    · rw [hd]
      exact fin_results hT hv1 hr1 hx1 h2
    · rw [hd]
      refine ⟨by simp, .inl ⟨D, w'.putObj D (.deferred none), rfl, run_takeDeferred hD3, ?_⟩⟩
      exact fin_results hT hv1 (hr1.putObj hD2 _) (hx1.putObj hD1 _) h2
  cases e with
  | normal => exact fin (e := .normal) (by simp) ho
  | ret => exact fin (e := .ret) (by simp) ho
  | exit id =>
    obtain ⟨_, _, _, _, _, _, _, h5⟩ := ho
    exact False.elim h5
  | goto l => exact False.elim ho
  | panic c => exact False.elim ho
  | outgrown => exact False.elim ho

theorem ARange.mk' {hs : Hints} {c : Code} {K : AK} {ts : List Value} {H : List Blk} (h : ∀ (μ : List Nat) (a : Act) (w : World), SRs μ ts a.tmps.toList → Rel μ H w → a.defers = [] → c.wpIn Fence.wide 0 P (OutXM μ H w K) a w) : ARange P T hs c K ts H := ⟨h⟩
end
end Go.Aw
end
section
/-
  The range over an iterator with a state cell, told of abstract heaps.
-/
namespace Go.Aw
section
variable {P : Program} {T : Tab}

theorem load_at (hT : TabOk P T) {H : List Blk} {μ : List Nat} {w : World} {t : TypeId} {i b : Nat} {v0 : Value} (h : loadF T H t (.pointer (some ⟨i, 0, none⟩)) fun v => v = v0) (hr : Rel μ H w) (hμ : μ[i]? = some b) :
    ∃ cv, VR μ v0 cv ∧ (Instr.loadAt t (.pointer (some ⟨b, 0, none⟩))).run P w = .ok cv w := by
  obtain ⟨i', o, v, he, rfl, hl⟩ := load_sound h
  obtain ⟨rfl, rfl⟩ : i = i' ∧ 0 = o := by simpa using he
  obtain ⟨l, hvl, hc⟩ := hl.cells μ w b hr hμ
  obtain ⟨cv, hvr, hrun⟩ := ld_run (o := 0) (b := b) hT hl hvl
  exact ⟨cv, hvr, by simp [Instr.loadAt, Instr.sureAddr, hrun w hc]⟩

theorem same_names {μ μ' : List Nat} {H H' : List Blk} {w w' : World} (hr : Rel μ H w) (hr' : Rel μ' H' w') (hx : Ext μ H w μ' H' w') (hl : H'.length = H.length) : μ' = μ := by
  obtain ⟨ext, rfl, _⟩ := hx.pre
  have h5 := hr'.len
  rw [hl, List.length_append, ← hr.len] at h5
  have : ext = [] := List.length_eq_zero_iff.1 (by omega)
  rw [this, List.append_nil]

/-- How a range is left. -/
def KJump (K : AK) (ts : List Value) : Code → List Blk → Prop := fun c H => match c with
  | .ret => K .ret ts H
  | .exit id => K (.exit id) ts H
  | _ => False

theorem ARange.states (hT : TabOk P T) (hs : Hints) {x : Tmp} {p0 : Tmp} {asg body : Code} {K : AK} {ts : List Value} {H : List Blk}
    {tf t tb tp : TypeId} {nx f : FuncId} {q1 q2 : String} {fn : Func} (hf : P.funcs[f]? = some fn) (hb : fn.body = some (itCode tf t tb tp nx q1 q2)) (hnt : fn.ntmps = 10) (hres : fn.results = #[])
    (hg : ∀ (args : Array Value) (w : World), (callFunc nx args).run P w = .ok (.enter nx args) w) (henter : ∀ (args : Array Value) (w : World), (callFunc f args).run P w = .ok (.enter f args) w)
    (i j m : Nat) (hx : ts[x]? = some (.func (.func f) #[] #[.pointer (some ⟨i, 0, none⟩), .pointer (some ⟨j, 0, none⟩)]))
    (N : Nat) (hN : 0 < N) (Hk HB : Nat → List Blk) (u : IntKind) (s : Nat → Int) (hH0 : Hk 0 = H) (hlk : ∀ k, (Hk k).length = H.length) (hlb : ∀ k, (HB k).length = H.length)
    (hl0 : ∀ k, loadF T (Hk k) t (.pointer (some ⟨i, 0, none⟩)) fun v => v = .int u (s k))
    (hlp : ∀ k, loadF T (HB k) tp (.pointer (some ⟨j, 0, none⟩)) fun v => v = .pointer (some ⟨m, 0, none⟩))
    (hl2 : ∀ k, loadF T (HB k) t (.pointer (some ⟨i, 0, none⟩)) fun v => v = .int u (s k))
    (hnx : ∀ k, ACalls P nx [.pointer (some ⟨m, 0, none⟩), .int u (s k)] (HB k) fun v H' => v = .int u (s (k + 1)) ∧ H' = HB k)
    (hst : ∀ k, storeF T (HB k) t (.pointer (some ⟨i, 0, none⟩)) (.int u (s (k + 1))) fun H' => H' = Hk (k + 1))
    (hpa : plainC asg = true) (hpb : plainC body = true) (hoa : codeOk T hs asg = true) (hob : codeOk T hs body = true)
    (hm : m < H.length)
    (hround : ∀ k, k < N → AWp P T hs asg (fun e ts1 H1 => match e with | .normal => AWp P T hs body (KRound (k + 1 < N) (Hk k) (HB k) (KJump K ts)) ts1 H1 | _ => False) (ts.set p0 (.int u (s k))) (Hk k)) :
    ARange P T hs (.rangeFunc (.tmp x) #[p0] asg body) K ts H := by
  refine ⟨fun μ a w hv hr hd => ?_⟩
  obtain ⟨y, hy, hsr⟩ := hv.get hx
  replace hsr := hsr.resolve_left (by simp [junk])
  have heval0 : a.eval (.tmp x) = y := by
    have : a.tmps[x]? = some y := by simpa using hy
    simp [Act.eval, this]
  cases hsr with
  | fn _ _ a' _ c' ha hc ra rc =>
    have ha' : a' = #[] := Array.size_eq_zero_iff.1 (by simpa using ha.symm)
    subst ha'
    obtain ⟨c0, c1, rfl⟩ : ∃ c0 c1, c' = #[c0, c1] := by
      have h2 : c'.size = 2 := by simpa using hc.symm
      exact ⟨c'[0], c'[1], Array.ext (by simpa using h2) fun k hk1 hk2 => by
        have : k = 0 ∨ k = 1 := by simp at hk2; omega
        rcases this with rfl | rfl <;> rfl⟩
    have h0 := rc 0 _ _ rfl rfl
    have h1 := rc 1 _ _ rfl rfl
    obtain ⟨bi, rfl, hbi⟩ := h0.of_ptr
    obtain ⟨bj, rfl, hbj⟩ := h1.of_ptr
    obtain ⟨bm, hbm⟩ : ∃ bm, μ[m]? = some bm := ⟨_, List.getElem?_eq_getElem (by rw [← hr.len]; exact hm)⟩
    refine range_rule hT hs hv hr hf hb hnt hres hg henter ⟨bi, 0, none⟩ ⟨bj, 0, none⟩ heval0 N hN Hk HB (fun k => .int u (s k)) (.pointer (some ⟨bm, 0, none⟩)) (fun k => .int u (s k)) hH0 hlk hlb ?_ ?_ ?_ ?_ (KJump K ts) hpa hpb hoa hob hround ?_
    · intro k W hR
      obtain ⟨cv, hvr, hrun⟩ := load_at hT (hl0 k) hR hbi
      cases hvr; exact hrun
    · intro k W hR
      obtain ⟨cv, hvr, hrun⟩ := load_at hT (hlp k) hR hbj
      obtain ⟨b, rfl, hb'⟩ := hvr.of_ptr
      rw [hbm] at hb'
      cases hb'; exact hrun
    · intro k W hR
      obtain ⟨cv, hvr, hrun⟩ := load_at hT (hl2 k) hR hbi
      cases hvr; exact hrun
    · intro k W hR
      have hargs : VRs μ [.pointer (some ⟨m, 0, none⟩), .int u (s k)] [.pointer (some ⟨bm, 0, none⟩), .int u (s k)] := VRs.cons (.ptr _ _ _ hbm) (VRs.cons (.int _ _) VRs.nil)
      refine ((hnx k).out μ W _ hargs hR).2.mono ?_
      rintro e W' ⟨v, cv, μ', H', rfl, hvr, hR', hX', rfl, rfl⟩
      have hμ : μ' = μ := same_names hR hR' hX' rfl
      subst hμ
      cases hvr
      obtain ⟨H2, W2, rfl, hs', hR2, hX2⟩ := store_sound hT hR' (hst k) (.ptr i bi 0 hbi) (.int u (s (k + 1)))
      exact ⟨rfl, W2, hs', hR2, hX'.trans hR.len hR'.len hX2⟩
    · intro c μ' H' D W hD1 hD2 hD3 hR hX hk
      have hmk : Marks w (markOf D :: a.defers) μ' W := .inr ⟨D, by rw [hd], hD1, hD2, hD3⟩
      have hv' : SRs μ' ts a.tmps.toList := hv.mono hX.sub
      cases c <;> try exact False.elim hk
      case ret => exact wpIn_ret ⟨μ', ts, H', hv', hR, hX, hmk, hk⟩
      case exit id => exact wpIn_exit ⟨μ', ts, H', hv', hR, hX, hmk, hk⟩
end
end Go.Aw
end
section
/-
  Functions with a range, in the form that is computed.
-/
namespace Go.Aw
section
variable {P : Program} {T : Tab}

noncomputable def AWpOR (P : Program) (T : Tab) (hs : Hints) (c : Code) : AK → List Value → List Blk → Prop :=
  Code.rec (motive := fun _ => AK → List Value → List Blk → Prop)
    (fun _ _ _ => False)
    (fun _ _ _ _ _ _ => False)
    (fun x y iha ihb K ts H => match oneR x with
      | true => iha (fun e ts H => match e with | .normal => AWpR P T hs y K ts H | e => K e ts H) ts H
      | false => AWpR P T hs x (fun e ts H => match e with | .normal => ihb K ts H | e => K e ts H) ts H)
    (fun _ _ _ _ _ _ _ _ => False)
    (fun id _ ih K ts H => ih (fun e ts H => match e with | .exit j => (match Nat.beq j id with | true => K .normal ts H | false => K (.exit j) ts H) | e => K e ts H) ts H)
    (fun _ _ _ _ _ => False)
    (fun g ps x y _ _ K ts H => ARange P T hs (.rangeFunc g ps x y) K ts H)
    (fun _ _ _ _ => False)
    (fun _ _ _ _ _ => False)
    (fun _ _ _ _ => False)
    (fun _ _ _ _ => False)
    (fun _ _ _ => False)
    (fun _ _ _ _ => False) c

theorem AWpOR_eq (hs : Hints) : ∀ c : Code, AWpOR P T hs c = AWpO P T hs c
  | .seq a b => by
    funext K ts H; unfold AWpO; rw [← AWpOR_eq hs a, ← AWpOR_eq hs b, ← AWpR_eq P T hs a, ← AWpR_eq P T hs b]
    show (match oneR a with | true => _ | false => _) = _
    cases oneR a <;> rfl
  | .block id c => by funext K ts H; unfold AWpO; rw [← AWpOR_eq hs c]; rfl
  | .rangeFunc .. => by funext K ts H; rfl
  | .skip => by funext K ts H; rfl
  | .region .. => by funext K ts H; rfl
  | .cond .. => by funext K ts H; rfl
  | .loop .. => by funext K ts H; rfl
  | .exit id => by funext K ts H; rfl
  | .scope _ => by funext K ts H; rfl
  | .label _ => by funext K ts H; rfl
  | .goto _ => by funext K ts H; rfl
  | .ret => by funext K ts H; rfl
  | .refuse _ => by funext K ts H; rfl

theorem ACalls.codeR (hT : TabOk P T) (hs : Hints) {f : FuncId} {fn : Func} {args : List Value} {H : List Blk} {R : Value → List Blk → Prop} (hf : P.funcs[f]? = some fn) (hcall : ∀ (args : Array Value) (w : World), (callFunc f args).run P w = .ok (.enter f args) w)
    (hb : fn.body = some (bodyOf fn)) (hok : okO T hs (bodyOf fn) = true) (h : startF args fn.ntmps fun ts => AWpOR P T hs (bodyOf fn) (postF T fn.results.toList (Tidy H R)) ts H) : ACalls P f args H R := by
  rw [AWpOR_eq] at h
  exact (ACalls.introO hT hs hf hb hcall hok (start_iff h)).tidy
end
end Go.Aw
end
