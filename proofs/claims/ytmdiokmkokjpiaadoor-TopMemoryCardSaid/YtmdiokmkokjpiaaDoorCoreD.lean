/-
  Walks through the functions of the program, by contract.
-/
import Derived.Test.YtmdiokmkokjpiaaDoorCoreC
set_option linter.all false
set_option linter.unusedVariables false
set_option linter.unusedSimpArgs false
set_option linter.unnecessarySimpa false
section
/-
  Eight-bit words: integers as bit vectors.
-/
set_option linter.unusedSectionVars false
namespace Go.Aw
variable [Base]

theorem wf_u8 {a : Int} (h : (Lit.int .u8 a).wf = true) : 0 ≤ a ∧ a ≤ 255 := by
  simpa [Lit.wf, IntKind.min, IntKind.max, IntKind.signed, IntKind.bits] using h
theorem wf_u16 {a : Int} (h : (Lit.int .u16 a).wf = true) : 0 ≤ a ∧ a ≤ 65535 := by
  simpa [Lit.wf, IntKind.min, IntKind.max, IntKind.signed, IntKind.bits] using h
theorem wf_i64 {a : Int} (h : (Lit.int .i64 a).wf = true) : -9223372036854775808 ≤ a ∧ a ≤ 9223372036854775807 := by
  simpa [Lit.wf, IntKind.min, IntKind.max, IntKind.signed, IntKind.bits] using h
theorem wrap64 {n : Int} (h : -9223372036854775808 ≤ n) (h2 : n ≤ 9223372036854775807) : IntKind.i64.wrap n = n := by
  have h1 : IntKind.i64.wrap n = if n % 18446744073709551616 ≥ 9223372036854775808 then n % 18446744073709551616 - 18446744073709551616 else n % 18446744073709551616 := by
    simp [IntKind.wrap, IntKind.signed, IntKind.bits]
  rw [h1]
  split <;> omega
theorem wrap8 {n : Int} (h : 0 ≤ n) (h2 : n ≤ 255) : IntKind.u8.wrap n = n := by
  simp only [IntKind.wrap, IntKind.signed, IntKind.bits, Bool.false_and, Bool.false_eq_true, if_false]
  omega
theorem wrap16 {n : Int} (h : 0 ≤ n) (h2 : n ≤ 65535) : IntKind.u16.wrap n = n := by
  simp only [IntKind.wrap, IntKind.signed, IntKind.bits, Bool.false_and, Bool.false_eq_true, if_false]
  omega
theorem bv8 {a : Int} (h : (Lit.int .u8 a).wf = true) : ∃ A : BitVec 8, a = (A.toNat : Int) := by
  have := wf_u8 h
  exact ⟨BitVec.ofNat 8 a.toNat, by simp; omega⟩
theorem wrap_u8 (A : BitVec 8) : IntKind.u8.wrap (A.toNat : Int) = (A.toNat : Int) := by
  have := A.isLt
  simp [IntKind.wrap, IntKind.signed, IntKind.bits]; omega
theorem bv_and (A B : BitVec 8) : bits .and .u8 (A.toNat : Int) (B.toNat : Int) = ((A &&& B).toNat : Int) := by
  show IntKind.u8.wrap _ = _
  have h : ∀ X : BitVec 8, BitVec.ofInt 8 (X.toNat : Int) = X := fun X => by simp
  simp only [IntKind.bits]
  rw [h, h]; exact wrap_u8 _
theorem bv_or (A B : BitVec 8) : bits .or .u8 (A.toNat : Int) (B.toNat : Int) = ((A ||| B).toNat : Int) := by
  show IntKind.u8.wrap _ = _
  have h : ∀ X : BitVec 8, BitVec.ofInt 8 (X.toNat : Int) = X := fun X => by simp
  simp only [IntKind.bits]
  rw [h, h]; exact wrap_u8 _
theorem bv_xor (A B : BitVec 8) : bits .xor .u8 (A.toNat : Int) (B.toNat : Int) = ((A ^^^ B).toNat : Int) := by
  show IntKind.u8.wrap _ = _
  have h : ∀ X : BitVec 8, BitVec.ofInt 8 (X.toNat : Int) = X := fun X => by simp
  simp only [IntKind.bits]
  rw [h, h]; exact wrap_u8 _
theorem bv_andNot (A B : BitVec 8) : bits .andNot .u8 (A.toNat : Int) (B.toNat : Int) = ((A &&& ~~~B).toNat : Int) := by
  show IntKind.u8.wrap _ = _
  have h : ∀ X : BitVec 8, BitVec.ofInt 8 (X.toNat : Int) = X := fun X => by simp
  simp only [IntKind.bits]
  rw [h, h]; exact wrap_u8 _

/-- A loop, by an invariant that bears a state of its own, and a measure of that state. -/
theorem ALoop.by {σ : Type} {body : AK → List Value → List Blk → Prop} {K : AK} {ts : List Value} {H : List Blk} (I : σ → List Value → List Blk → Prop) (m : σ → Nat) (s0 : σ) (h0 : I s0 ts H)
    (round : ∀ s ts H, I s ts H → ∀ R : List Value → List Blk → Prop, (∀ s' ts' H', I s' ts' H' → m s' < m s → R ts' H') → body (fun e ts' H' => match e with | .normal => R ts' H' | e => K e ts' H') ts H) : ALoop body K ts H := by
  have key : ∀ (n : Nat) (s : σ) (ts : List Value) (H : List Blk), I s ts H → m s < n → rounds body K n ts H := by
    intro n
    induction n with
    | zero => intro s ts H _ h; omega
    | succ n ih => intro s ts H hI hm; exact round s ts H hI (rounds body K n) fun s' ts' H' hI' hm' => ih s' ts' H' hI' (by omega)
  exact .of (m s0 + 1) (key _ s0 ts H h0 (by omega))

/-- What a frame's slots hold, where it is told. -/
def slay : List (Option Value) → List Value → List Value
  | some v :: p, _ :: t => v :: slay p t
  | none :: p, x :: t => x :: slay p t
  | [], _ => []
  | _ :: _, [] => [undef]
/-- The frame of a pattern: the other slots hold what 'x' tells. -/
def slotsF (x : Nat → Value) : List (Option Value) → List Nat → (List Value → Prop) → Prop
  | [], _, k => k []
  | some v :: p, _ :: ns, k => slotsF x p ns fun l => k (v :: l)
  | none :: p, n :: ns, k => slotsF x p ns fun l => k (x n :: l)
  | _ :: _, [], _ => True
def many : List Nat := [0, 1, 2, 3, 4, 5, 6, 7, 8, 9, 10, 11, 12, 13, 14, 15, 16, 17, 18, 19, 20, 21, 22, 23, 24, 25, 26, 27, 28, 29, 30, 31, 32, 33, 34, 35, 36, 37, 38, 39, 40, 41, 42, 43, 44, 45, 46, 47, 48, 49, 50, 51, 52, 53, 54, 55, 56, 57, 58, 59, 60, 61, 62, 63, 64, 65, 66, 67, 68, 69, 70, 71, 72, 73, 74, 75, 76, 77, 78, 79, 80, 81, 82, 83, 84, 85, 86, 87, 88, 89, 90, 91, 92, 93, 94, 95, 96, 97, 98, 99, 100, 101, 102, 103, 104, 105, 106, 107, 108, 109, 110, 111, 112, 113, 114, 115, 116, 117, 118, 119, 120, 121, 122, 123, 124, 125, 126, 127, 128, 129, 130, 131, 132, 133, 134, 135, 136, 137, 138, 139, 140, 141, 142, 143, 144, 145, 146, 147, 148, 149, 150, 151, 152, 153, 154, 155, 156, 157, 158, 159, 160, 161, 162, 163, 164, 165, 166, 167, 168, 169, 170, 171, 172, 173, 174, 175, 176, 177, 178, 179, 180, 181, 182, 183, 184, 185, 186, 187, 188, 189, 190, 191, 192, 193, 194, 195, 196, 197, 198, 199, 200, 201, 202, 203, 204, 205, 206, 207, 208, 209, 210, 211, 212, 213, 214, 215, 216, 217, 218, 219, 220, 221, 222, 223, 224, 225, 226, 227, 228, 229, 230, 231, 232, 233, 234, 235, 236, 237, 238, 239, 240, 241, 242, 243, 244, 245, 246, 247, 248, 249, 250, 251, 252, 253, 254, 255, 256, 257, 258, 259, 260, 261, 262, 263, 264, 265, 266, 267, 268, 269, 270, 271, 272, 273, 274, 275, 276, 277, 278, 279, 280, 281, 282, 283, 284, 285, 286, 287, 288, 289, 290, 291, 292, 293, 294, 295, 296, 297, 298, 299, 300, 301, 302, 303, 304, 305, 306, 307, 308, 309, 310, 311, 312, 313, 314, 315, 316, 317, 318, 319, 320, 321, 322, 323, 324, 325, 326, 327, 328, 329, 330, 331, 332, 333, 334, 335, 336, 337, 338, 339, 340, 341, 342, 343, 344, 345, 346, 347, 348, 349, 350, 351, 352, 353, 354, 355, 356, 357, 358, 359, 360, 361, 362, 363, 364, 365, 366, 367, 368, 369, 370, 371, 372, 373, 374, 375, 376, 377, 378, 379, 380, 381, 382, 383, 384, 385, 386, 387, 388, 389, 390, 391, 392, 393, 394, 395, 396, 397, 398, 399]
theorem slots_of {x : Nat → Value} : ∀ {p : List (Option Value)} {ns : List Nat} {ts : List Value} {k : List Value → Prop}, slay p ts = ts → p.length ≤ ns.length → (∀ (i n : Nat) (v : Value), ns[i]? = some n → ts[i]? = some v → x n = v) → slotsF x p ns k → k ts
  | [], _, [], k, _, _, _, h => h
  | [], _, _ :: _, k, hl, _, _, h => by simp [slay] at hl
  | some v :: p, n :: ns, [], k, hl, _, _, h => by simp [slay] at hl
  | some v :: p, n :: ns, y :: ts, k, hl, hn, hx, h => by
    simp only [slay, List.cons.injEq] at hl
    obtain ⟨rfl, hl⟩ := hl
    exact slots_of (k := fun l => k (v :: l)) hl (by simpa using hn) (fun i m w h1 h2 => hx (i + 1) m w (by simpa using h1) (by simpa using h2)) h
  | none :: p, n :: ns, y :: ts, k, hl, hn, hx, h => by
    simp only [slay, List.cons.injEq] at hl
    have := slots_of (k := fun l => k (x n :: l)) hl.2 (by simpa using hn) (fun i m w h1 h2 => hx (i + 1) m w (by simpa using h1) (by simpa using h2)) h
    rwa [hx 0 n y rfl rfl] at this
  | _ :: _, [], _, _, _, hn, _, _ => by simp at hn
  | none :: p, n :: ns, [], k, hl, _, _, h => by simp [slay] at hl
/-- **A loop**, by what the frame and the heap hold ahead of each round, told by a state of its own, and a measure. -/
theorem ALoop.go {σ : Type} {body : AK → List Value → List Blk → Prop} {K : AK} {ts : List Value} {H : List Blk} (pat : σ → List (Option Value)) (hp : σ → List Blk) (inv : σ → Prop) (m : σ → Nat) (s0 : σ)
    (h0 : slay (pat s0) ts = ts) (hh : hp s0 = H) (hi : inv s0) (hlen : ∀ s, Nat.ble (pat s).length 400 = true)
    (round : ∀ s, inv s → ∀ (x : Nat → Value) (R : List Value → List Blk → Prop), (∀ s' ts' H', slay (pat s') ts' = ts' → hp s' = H' → inv s' → m s' < m s → R ts' H') →
      slotsF x (pat s) many fun ts => body (fun e ts' H' => match e with | .normal => R ts' H' | e => K e ts' H') ts (hp s)) : ALoop body K ts H := by
  refine ALoop.by (fun s ts H => slay (pat s) ts = ts ∧ hp s = H ∧ inv s) m s0 ⟨h0, hh, hi⟩ fun s ts H hI R hR => ?_
  obtain ⟨h1, rfl, h3⟩ := hI
  have hmany : many.length = 400 := by decide +kernel
  refine slots_of (x := fun n => ts.getD n undef) h1 (by rw [hmany]; exact Nat.le_of_ble_eq_true (hlen s)) (fun i n v hn hv => ?_) (round s h3 (fun n => ts.getD n undef) R fun s' ts' H' a b c d => hR s' ts' H' ⟨a, b, c⟩ d)
  have : n = i := by
    have h4 : many = List.range 400 := by decide +kernel
    rw [h4] at hn
    have := (List.getElem?_eq_some_iff.1 hn).2
    simpa using this.symm
  subst this
  simp [List.getD, hv]

noncomputable def roundsR (body : AK → List Value → List Blk → Prop) (K : AK) (n : Nat) : List Value → List Blk → Prop :=
  Nat.rec (motive := fun _ => List Value → List Blk → Prop) (fun _ _ => False) (fun _ ih ts H => body (fun e ts H => match e with | .normal => ih ts H | e => K e ts H) ts H) n
theorem roundsR_eq (body : AK → List Value → List Blk → Prop) (K : AK) : ∀ n : Nat, roundsR body K n = rounds body K n
  | 0 => by funext ts H; rfl
  | n + 1 => by funext ts H; unfold rounds; rw [← roundsR_eq body K n]; rfl
/-- A loop of few rounds, one by one. -/
theorem ALoop.run {body : AK → List Value → List Blk → Prop} {K : AK} {ts : List Value} {H : List Blk} (n : Nat) (h : roundsR body K n ts H) : ALoop body K ts H := .of n (by rw [← roundsR_eq]; exact h)

/-- A row of elements of 's' cells each, from 'off' on, read only. -/
def rowG (off len s : Nat) (cells : Nat → List Value) : Nat → Option Value := fun o => if off ≤ o ∧ o < off + len * s then (cells ((o - off) / s))[(o - off) % s]? else none
theorem rowG_at {off len s i m : Nat} {cells : Nat → List Value} (hi : i < len) (hm : m < s) : rowG off len s cells (off + i * s + m) = (cells i)[m]? := by
  have h1 : i * s + m < len * s := by
    have : (i + 1) * s ≤ len * s := Nat.mul_le_mul_right s hi
    rw [Nat.succ_mul] at this; omega
  have hd : (i * s + m) / s = i := by
    rw [Nat.add_comm, Nat.add_mul_div_right _ _ (by omega), Nat.div_eq_of_lt hm, Nat.zero_add]
  have hr : (i * s + m) % s = m := by
    rw [Nat.add_comm, Nat.add_mul_mod_self_right, Nat.mod_eq_of_lt hm]
  unfold rowG
  rw [if_pos ⟨by omega, by omega⟩, show off + i * s + m - off = i * s + m by omega, hd, hr]
theorem rowG_some {off len s o : Nat} {cells : Nat → List Value} {v : Value} (h : rowG off len s cells o = some v) : ∃ i m : Nat, i < len ∧ o = off + i * s + m ∧ (cells i)[m]? = some v := by
  unfold rowG at h
  split at h
  · rename_i hc
    obtain ⟨h1, h2⟩ := hc
    have hs : 0 < s := by
      rcases Nat.eq_zero_or_pos s with h0 | h0
      · rw [h0, Nat.mul_zero] at h2; omega
      · exact h0
    refine ⟨(o - off) / s, (o - off) % s, Nat.div_lt_of_lt_mul (by rw [Nat.mul_comm]; omega), ?_, h⟩
    have := Nat.div_add_mod (o - off) s
    rw [Nat.mul_comm] at this; omega
  · cases h

theorem fits_nil {cs : List Value} (h : FitsAll [] cs) : cs = [] := List.length_eq_zero_iff.1 h.1
theorem fits_cons {k : CK} {ks : List CK} {cs : List Value} (h : FitsAll (k :: ks) cs) : ∃ v cs', cs = v :: cs' ∧ k.fits v ∧ FitsAll ks cs' := by
  obtain ⟨hl, h⟩ := h
  cases cs with
  | nil => simp at hl
  | cons v cs' => exact ⟨v, cs', rfl, h 0 k v rfl rfl, by simpa using hl, fun i k x hk hx => h (i + 1) k x (by simpa using hk) (by simpa using hx)⟩
theorem fits_int {k : IntKind} {ks : List CK} {cs : List Value} (h : FitsAll (.int k :: ks) cs) : ∃ n cs', cs = .int k n :: cs' ∧ (Lit.int k n).wf = true ∧ FitsAll ks cs' := by
  obtain ⟨v, cs', rfl, ⟨n, rfl, hw⟩, hf⟩ := fits_cons h
  exact ⟨n, cs', rfl, hw, hf⟩
theorem fits_bool {ks : List CK} {cs : List Value} (h : FitsAll (.bool :: ks) cs) : ∃ b cs', cs = .bool b :: cs' ∧ FitsAll ks cs' := by
  obtain ⟨v, cs', rfl, ⟨b, rfl⟩, hf⟩ := fits_cons h
  exact ⟨b, cs', rfl, hf⟩
end Go.Aw
end
section
/-
  Masks, shifts and wraps as plain arithmetic.
-/
set_option linter.unusedSectionVars false
namespace Go.Aw
variable [Base]

theorem ofInt_toNat (w : Nat) (n : Int) : ((BitVec.ofInt w n).toNat : Int) = n % (2 : Int) ^ w := by
  rw [BitVec.toNat_ofInt]
  have h0 : (0 : Int) ≤ n % ((2 ^ w : Nat) : Int) := Int.emod_nonneg _ (by have := Nat.two_pow_pos w; omega)
  rw [Int.toNat_of_nonneg h0, Int.natCast_pow]; rfl

/-- A mask of low bits is a remainder. -/
theorem and_mask (k : IntKind) (n : Int) (j : Nat) (hj : j < k.bits) : bits .and k n ((2 : Int) ^ j - 1) = n % (2 : Int) ^ j := by
  show k.wrap ((BitVec.ofInt k.bits n &&& BitVec.ofInt k.bits ((2 : Int) ^ j - 1)).toNat : Int) = _
  have hp : (0 : Int) < 2 ^ j := Int.pow_pos (by omega)
  have h1 : (BitVec.ofInt k.bits ((2 : Int) ^ j - 1)).toNat = 2 ^ j - 1 := by
    have h := ofInt_toNat k.bits ((2 : Int) ^ j - 1)
    have h2 : ((2 : Int) ^ j - 1) % (2 : Int) ^ k.bits = (2 : Int) ^ j - 1 := by
      apply Int.emod_eq_of_lt (by omega)
      have : (2 : Int) ^ j ≤ 2 ^ k.bits := by exact_mod_cast Nat.pow_le_pow_right (by omega) (Nat.le_of_lt hj)
      omega
    rw [h2] at h
    have h3 : ((2 ^ j - 1 : Nat) : Int) = (2 : Int) ^ j - 1 := by
      rw [Int.ofNat_sub (Nat.two_pow_pos j)]; simp
    omega
  have h4 : (BitVec.ofInt k.bits n &&& BitVec.ofInt k.bits ((2 : Int) ^ j - 1)).toNat = (BitVec.ofInt k.bits n).toNat % 2 ^ j := by
    rw [BitVec.toNat_and, h1, Nat.and_two_pow_sub_one_eq_mod]
  rw [h4, Int.natCast_emod, ofInt_toNat]
  have h5 : n % (2 : Int) ^ k.bits % ((2 ^ j : Nat) : Int) = n % (2 : Int) ^ j := by
    have : ((2 ^ j : Nat) : Int) = (2 : Int) ^ j := by simp
    rw [this]
    exact Int.emod_emod_of_dvd n (by
      have : (2 : Int) ^ k.bits = 2 ^ j * 2 ^ (k.bits - j) := by rw [← Int.pow_add]; congr 1; omega
      rw [this]; exact Int.dvd_mul_right _ _)
  rw [h5]
  have h6 : 0 ≤ n % (2 : Int) ^ j := Int.emod_nonneg _ (by omega)
  have h7 : n % (2 : Int) ^ j < 2 ^ j := Int.emod_lt_of_pos _ hp
  have h8 : (2 : Int) ^ j ≤ 2 ^ (k.bits - 1) := by exact_mod_cast Nat.pow_le_pow_right (by omega) (by omega)
  have h9 : (2 : Int) ^ (k.bits - 1) ≤ 2 ^ k.bits := by exact_mod_cast Nat.pow_le_pow_right (by omega) (by omega)
  unfold IntKind.wrap
  have h10 : n % (2 : Int) ^ j % (2 : Int) ^ k.bits = n % (2 : Int) ^ j := Int.emod_eq_of_lt h6 (by omega)
  simp only [h10]
  rw [if_neg]
  simp only [Bool.and_eq_true, decide_eq_true_eq, not_and]
  intro _; omega
theorem and3 (n : Int) : bits .and .i64 n 3 = n % 4 := and_mask .i64 n 2 (by decide)
theorem and1 (n : Int) : bits .and .i64 n 1 = n % 2 := and_mask .i64 n 1 (by decide)
theorem and1u (n : Int) : bits .and .u8 n 1 = n % 2 := and_mask .u8 n 1 (by decide)
theorem and3u (n : Int) : bits .and .u8 n 3 = n % 4 := and_mask .u8 n 2 (by decide)
theorem and7u (n : Int) : bits .and .u8 n 7 = n % 8 := and_mask .u8 n 3 (by decide)
theorem and15u (n : Int) : bits .and .u8 n 15 = n % 16 := and_mask .u8 n 4 (by decide)
theorem and15 (n : Int) : bits .and .i64 n 15 = n % 16 := and_mask .i64 n 4 (by decide)
theorem and7 (n : Int) : bits .and .i64 n 7 = n % 8 := and_mask .i64 n 3 (by decide)
end Go.Aw
end
section
/-
  What is known of a slice's elements; a byte's top bit.
-/
set_option linter.unusedSectionVars false
namespace Go.Aw
variable [Base]
open Go.ChangeShapes Go.WideShapes Go.RowKit

/-- What the cells of 'len' elements of 'sz' cells each, from 'off' on, hold. -/
@[irreducible] def slc (off sz len : Nat) (E : Nat → List Value) (o : Nat) : Option Value :=
  if off ≤ o ∧ (o - off) / sz < len then (E ((o - off) / sz))[(o - off) % sz]? else none

theorem slc_at {off sz len : Nat} {E : Nat → List Value} {n m o : Nat} {v : Value} (hn : n < len) (hm : m < sz) (h : (E n)[m]? = some v) (ho : o = off + n * sz + m) : slc off sz len E o = some v := by
  subst ho
  unfold slc
  have e1 : off + n * sz + m - off = m + sz * n := by rw [Nat.mul_comm]; omega
  have hd : (off + n * sz + m - off) / sz = n := by rw [e1, Nat.add_mul_div_left _ _ (by omega), Nat.div_eq_of_lt hm]; omega
  have hr : (off + n * sz + m - off) % sz = m := by rw [e1, Nat.add_mul_mod_self_left, Nat.mod_eq_of_lt hm]
  rw [hd, hr, if_pos ⟨by omega, hn⟩]; exact h

theorem slc_ex {off sz len : Nat} {E : Nat → List Value} {k : Value → Prop} {o : Nat} (n m : Nat) {v : Value} (hn : n < len) (hm : m < sz) (h : (E n)[m]? = some v) (ho : o = off + n * sz + m) (hk : k v) : ∃ v, slc off sz len E o = some v ∧ k v :=
  ⟨v, slc_at hn hm h ho, hk⟩

theorem slc_some {off sz len : Nat} {E : Nat → List Value} {o : Nat} {v : Value} (h : slc off sz len E o = some v) (hs : 0 < sz) : ∃ n m, n < len ∧ o = off + n * sz + m ∧ (E n)[m]? = some v := by
  unfold slc at h
  split at h
  · rename_i hc
    refine ⟨(o - off) / sz, (o - off) % sz, hc.2, ?_, h⟩
    have := Nat.div_add_mod (o - off) sz
    rw [Nat.mul_comm] at this
    omega
  · cases h

section
variable {P : Program} {T : Tab}

end

/-! ## A loop whose rounds make memory that is forgotten -/
def mix : List Value → List Value → List Value
  | _ :: l, .chan none :: m => .chan none :: mix l m
  | v :: l, _ :: m => v :: mix l m
  | l, [] => l
  | [], _ => []
def bdJ (n : Nat) (v : Value) : Bool := match v with | .chan none => true | v => bdv 6 n v
def bdB (n : Nat) (b : Blk) : Bool := match b with | .cells c _ => c.all (bdv 6 n) | _ => true
def roMask : List Blk → List Blk → List Blk
  | b0 :: H0, b :: H2 => (match b with | .ro f => .ro f | _ => b0) :: roMask H0 H2
  | H0, [] => H0
  | [], b :: H2 => match b with | .ro _ => [.gone] | _ => roMask [] H2

theorem fadeS_of {n : Nat} : ∀ {l m : List Value}, mix l m = m → m.all (bdJ n) = true → fadeS n l m
  | [], [], _, _ => trivial
  | _ :: _, [], h, _ => by simp [mix] at h
  | [], _ :: _, h, _ => by simp [mix] at h
  | v :: l, w :: m, h, hb => by
    simp only [List.all_cons, Bool.and_eq_true] at hb
    unfold fadeS
    split
    · rename_i heq; simp at heq
    · rename_i heq heq2
      cases heq; cases heq2
      simp only [mix, List.cons.injEq, true_and] at h
      exact fadeS_of h hb.2
    · rename_i hc heq heq2
      cases heq; cases heq2
      have hb1 : bdv 6 n w = true := by
        have := hb.1
        unfold bdJ at this
        split at this
        · exact absurd rfl (hc)
        · exact this
      have h' : v = w ∧ mix l m = m := by
        unfold mix at h
        split at h
        · rename_i heq heq2; cases heq; cases heq2; exact absurd rfl hc
        · rename_i heq heq2; cases heq; cases heq2; simpa using h
        · rename_i heq heq2; cases heq2
        · rename_i heq heq2 ; cases heq
      exact ⟨hb1, h'.1, fadeS_of h'.2 hb.2⟩
    · rename_i h1 h2 h3
      exact h3 v l w m rfl rfl

theorem fadeH_of {n : Nat} : ∀ {H2 H0 : List Blk} {J : List Blk}, H2.all (bdB n) = true → roMask H0 H2 = H0 → fadeH n H0 (H2 ++ J) H2
  | [], H0, J, _, _ => by unfold fadeH; exact trivial
  | b :: H2, H0, J, hb, hr => by
    simp only [List.all_cons, Bool.and_eq_true] at hb
    cases b with
    | cells c e =>
      cases H0 with
      | nil =>
        have h9 : roMask [] H2 = [] := by simpa [roMask] using hr
        simp only [List.cons_append]
        unfold fadeH
        exact ⟨by simpa [bdB] using hb.1, rfl, fadeH_of (H0 := []) hb.2 h9⟩
      | cons b0 H0 =>
        have h9 : roMask H0 H2 = H0 := by simpa [roMask] using hr
        simp only [List.cons_append]
        unfold fadeH
        exact ⟨by simpa [bdB] using hb.1, rfl, fadeH_of (H0 := H0) hb.2 h9⟩
    | ro f =>
      cases H0 with
      | nil => simp [roMask] at hr
      | cons b0 H0 =>
        have h9 : .ro f = b0 ∧ roMask H0 H2 = H0 := by simpa [roMask] using hr
        simp only [List.cons_append]
        unfold fadeH
        exact ⟨h9.1.symm, rfl, fadeH_of hb.2 h9.2⟩
    | gone =>
      cases H0 with
      | nil =>
        have h9 : roMask [] H2 = [] := by simpa [roMask] using hr
        simp only [List.cons_append]
        unfold fadeH
        exact fadeH_of (H0 := []) hb.2 h9
      | cons b0 H0 =>
        have h9 : roMask H0 H2 = H0 := by simpa [roMask] using hr
        simp only [List.cons_append]
        unfold fadeH
        exact fadeH_of (H0 := H0) hb.2 h9

/-- **A loop**, by what the frame and the heap hold ahead of each round; what a round makes beside that is forgotten. -/
theorem ALoop.fd {σ : Type} {body : AK → List Value → List Blk → Prop} {K : AK} {ts : List Value} {H : List Blk} (fr : σ → List Value) (hp : σ → List Blk) (inv : σ → Prop) (m : σ → Nat) (s0 : σ) (J0 : List Blk)
    (h0 : mix ts (fr s0) = fr s0) (hh : H = hp s0 ++ J0) (hi : inv s0)
    (hok : ∀ s, Nat.ble H.length (hp s).length = true ∧ (fr s).all (bdJ (hp s).length) = true ∧ (hp s).all (bdB (hp s).length) = true ∧ roMask H (hp s) = H)
    (round : ∀ s, inv s → ∀ R : List Value → List Blk → Prop, (∀ s' ts' H' J, mix ts' (fr s') = fr s' → H' = hp s' ++ J → inv s' → m s' < m s → R ts' H') →
      body (fun e ts' H' => match e with | .normal => R ts' H' | e => K e ts' H') (fr s) (hp s)) : ALoop body K ts H := by
  have hf : ∀ s ts' H' J, mix ts' (fr s) = fr s → H' = hp s ++ J → Fade H ts' H' (fr s) (hp s) := fun s ts' H' J h1 h2 => by
    obtain ⟨a, b, c, d⟩ := hok s
    refine .inl ⟨a, fadeS_of h1 b, ?_⟩
    rw [h2]; exact fadeH_of c d
  have key : ∀ (n : Nat) (s : σ), inv s → m s < n → roundsF body K H n (fr s) (hp s) := by
    intro n
    induction n with
    | zero => intro s _ h; omega
    | succ n ih =>
      intro s hI hm
      exact round s hI (fun ts' H' => ∃ ts2 H2, Fade H ts' H' ts2 H2 ∧ roundsF body K H n ts2 H2) fun s' ts' H' J h1 h2 hI' hm' => ⟨_, _, hf s' ts' H' J h1 h2, ih s' hI' (by omega)⟩
  exact .fade (m s0 + 1) _ _ (hf s0 ts H J0 h0 hh) (key _ s0 hi (by omega))

theorem and128u (n : Int) (h : 0 ≤ n ∧ n ≤ 255) : (bits .and .u8 n 128 != 0) = decide (128 ≤ n) := by
  obtain ⟨j, rfl⟩ : ∃ j : Nat, n = j := ⟨n.toNat, by omega⟩
  have key : ∀ j : Nat, j < 256 → (bits .and .u8 (j : Int) 128 != 0) = decide (128 ≤ (j : Int)) := by decide +kernel
  exact key j (by omega)
end Go.Aw
end
