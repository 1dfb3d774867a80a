/-
  Eight-bit words: integers as bit vectors.
-/
import Derived.Test.YthppckoomdhmfaaCore17
set_option linter.all false
set_option linter.unusedVariables false
set_option linter.unusedSimpArgs false
set_option linter.unnecessarySimpa false
namespace Go.Aw

theorem wf_u8 {a : Int} (h : (Lit.int .u8 a).wf = true) : 0 ≤ a ∧ a ≤ 255 := by
  simpa [Lit.wf, IntKind.min, IntKind.max, IntKind.signed, IntKind.bits] using h
theorem wf_u16 {a : Int} (h : (Lit.int .u16 a).wf = true) : 0 ≤ a ∧ a ≤ 65535 := by
  simpa [Lit.wf, IntKind.min, IntKind.max, IntKind.signed, IntKind.bits] using h
theorem wf_i64 {a : Int} (h : (Lit.int .i64 a).wf = true) : -9223372036854775808 ≤ a ∧ a ≤ 9223372036854775807 := by
  simpa [Lit.wf, IntKind.min, IntKind.max, IntKind.signed, IntKind.bits] using h
theorem bv8 {a : Int} (h : (Lit.int .u8 a).wf = true) : ∃ A : BitVec 8, a = (A.toNat : Int) := by
  have := wf_u8 h
  exact ⟨BitVec.ofNat 8 a.toNat, by simp; omega⟩
theorem wrap_u8 (A : BitVec 8) : IntKind.u8.wrap (A.toNat : Int) = (A.toNat : Int) := by
  have := A.isLt
  simp [IntKind.wrap, IntKind.signed, IntKind.bits]; omega
theorem bv_and (A B : BitVec 8) : bits .and .u8 (A.toNat : Int) (B.toNat : Int) = ((A &&& B).toNat : Int) := by
  show IntKind.u8.wrap _ = _
  have h : ∀ X : BitVec 8, BitVec.ofInt 8 (X.toNat : Int) = X := fun X => by simp
  simp only [IntKind.bits]
  rw [h, h]; exact wrap_u8 _
theorem bv_or (A B : BitVec 8) : bits .or .u8 (A.toNat : Int) (B.toNat : Int) = ((A ||| B).toNat : Int) := by
  show IntKind.u8.wrap _ = _
  have h : ∀ X : BitVec 8, BitVec.ofInt 8 (X.toNat : Int) = X := fun X => by simp
  simp only [IntKind.bits]
  rw [h, h]; exact wrap_u8 _
theorem bv_xor (A B : BitVec 8) : bits .xor .u8 (A.toNat : Int) (B.toNat : Int) = ((A ^^^ B).toNat : Int) := by
  show IntKind.u8.wrap _ = _
  have h : ∀ X : BitVec 8, BitVec.ofInt 8 (X.toNat : Int) = X := fun X => by simp
  simp only [IntKind.bits]
  rw [h, h]; exact wrap_u8 _
theorem bv_andNot (A B : BitVec 8) : bits .andNot .u8 (A.toNat : Int) (B.toNat : Int) = ((A &&& ~~~B).toNat : Int) := by
  show IntKind.u8.wrap _ = _
  have h : ∀ X : BitVec 8, BitVec.ofInt 8 (X.toNat : Int) = X := fun X => by simp
  simp only [IntKind.bits]
  rw [h, h]; exact wrap_u8 _

theorem fits_nil {cs : List Value} (h : FitsAll [] cs) : cs = [] := List.length_eq_zero_iff.1 h.1
theorem fits_cons {k : CK} {ks : List CK} {cs : List Value} (h : FitsAll (k :: ks) cs) : ∃ v cs', cs = v :: cs' ∧ k.fits v ∧ FitsAll ks cs' := by
  obtain ⟨hl, h⟩ := h
  cases cs with
  | nil => simp at hl
  | cons v cs' => exact ⟨v, cs', rfl, h 0 k v rfl rfl, by simpa using hl, fun i k x hk hx => h (i + 1) k x (by simpa using hk) (by simpa using hx)⟩
theorem fits_int {k : IntKind} {ks : List CK} {cs : List Value} (h : FitsAll (.int k :: ks) cs) : ∃ n cs', cs = .int k n :: cs' ∧ (Lit.int k n).wf = true ∧ FitsAll ks cs' := by
  obtain ⟨v, cs', rfl, ⟨n, rfl, hw⟩, hf⟩ := fits_cons h
  exact ⟨n, cs', rfl, hw, hf⟩
theorem fits_bool {ks : List CK} {cs : List Value} (h : FitsAll (.bool :: ks) cs) : ∃ b cs', cs = .bool b :: cs' ∧ FitsAll ks cs' := by
  obtain ⟨v, cs', rfl, ⟨b, rfl⟩, hf⟩ := fits_cons h
  exact ⟨b, cs', rfl, hf⟩
end Go.Aw
