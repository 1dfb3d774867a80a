/-
  What is known of a slice's elements; a byte's top bit.
-/
import Derived.Test.YtfnhfbimokkjiaaCore19
set_option linter.all false
set_option linter.unusedVariables false
set_option linter.unusedSimpArgs false
set_option linter.unnecessarySimpa false
namespace Go.Aw
open Go.ChangeShapes Go.WideShapes Go.RowKit

/-- What the cells of 'len' elements of 'sz' cells each, from 'off' on, hold. -/
@[irreducible] def slc (off sz len : Nat) (E : Nat → List Value) (o : Nat) : Option Value :=
  if off ≤ o ∧ (o - off) / sz < len then (E ((o - off) / sz))[(o - off) % sz]? else none

theorem slc_at {off sz len : Nat} {E : Nat → List Value} {n m o : Nat} {v : Value} (hn : n < len) (hm : m < sz) (h : (E n)[m]? = some v) (ho : o = off + n * sz + m) : slc off sz len E o = some v := by
  subst ho
  unfold slc
  have e1 : off + n * sz + m - off = m + sz * n := by rw [Nat.mul_comm]; omega
  have hd : (off + n * sz + m - off) / sz = n := by rw [e1, Nat.add_mul_div_left _ _ (by omega), Nat.div_eq_of_lt hm]; omega
  have hr : (off + n * sz + m - off) % sz = m := by rw [e1, Nat.add_mul_mod_self_left, Nat.mod_eq_of_lt hm]
  rw [hd, hr, if_pos ⟨by omega, hn⟩]; exact h

theorem slc_ex {off sz len : Nat} {E : Nat → List Value} {k : Value → Prop} {o : Nat} (n m : Nat) {v : Value} (hn : n < len) (hm : m < sz) (h : (E n)[m]? = some v) (ho : o = off + n * sz + m) (hk : k v) : ∃ v, slc off sz len E o = some v ∧ k v :=
  ⟨v, slc_at hn hm h ho, hk⟩

theorem slc_some {off sz len : Nat} {E : Nat → List Value} {o : Nat} {v : Value} (h : slc off sz len E o = some v) (hs : 0 < sz) : ∃ n m, n < len ∧ o = off + n * sz + m ∧ (E n)[m]? = some v := by
  unfold slc at h
  split at h
  · rename_i hc
    refine ⟨(o - off) / sz, (o - off) % sz, hc.2, ?_, h⟩
    have := Nat.div_add_mod (o - off) sz
    rw [Nat.mul_comm] at this
    omega
  · cases h

section
variable {P : Program} {T : Tab}

/-- A walk over a law that reads one slice. -/
theorem walk_slc {f : FuncId} {args cargs : List Value} {off sz len : Nat} {E : Nat → List Value} {ks : List CK} (h : ACalls P f args [.ro (slc off sz len E)] fun v _ => v = .bool true) (hsz : 0 < sz)
    {b : Nat} (hv : VRs [b] args cargs) (w : World) (hb : b < w.heap.size) (hE : ∀ n, n < len → FitsAll ks (E n))
    (hg : ∀ n, n < len → ∀ m x, (E n)[m]? = some x → w.cell? ⟨b, off + n * sz + m, none⟩ = some x) :
    Calls P f cargs.toArray w fun e w' => e = .returned (.bool true) ∧ Below w.heap.size w w' :=
  walk_ro h hv w hb fun o v hs => by
    obtain ⟨n, m, hn, rfl, hm⟩ := slc_some hs hsz
    refine ⟨hg n hn m v hm, ?_⟩
    exact ((hE n hn).vrs [b]).2 m v v hm hm
end

theorem and128u (n : Int) (h : 0 ≤ n ∧ n ≤ 255) : (bits .and .u8 n 128 != 0) = decide (128 ≤ n) := by
  obtain ⟨j, rfl⟩ : ∃ j : Nat, n = j := ⟨n.toNat, by omega⟩
  have key : ∀ j : Nat, j < 256 → (bits .and .u8 (j : Int) 128 != 0) = decide (128 ≤ (j : Int)) := by decide +kernel
  exact key j (by omega)
end Go.Aw
