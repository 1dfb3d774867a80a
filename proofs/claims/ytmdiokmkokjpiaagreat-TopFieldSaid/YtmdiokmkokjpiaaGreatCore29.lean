/-
  Calls that read two slices, in two blocks or in one.
-/
import Derived.Test.YtmdiokmkokjpiaaGreatCore28
set_option linter.all false
set_option linter.unusedVariables false
set_option linter.unusedSimpArgs false
set_option linter.unnecessarySimpa false
namespace Go.Aw
open Go.ChangeShapes Go.WideShapes Go.RowKit
variable {P : Program}
theorem fits_length {ks : List CK} {cs : List Value} (h : FitsAll ks cs) : cs.length = ks.length := h.1
theorem slc_fact {off sz len : Nat} {E : Nat → List Value} {ks : List CK} (hE : ∀ i, i < len → FitsAll ks (E i)) (hk : ks.length = sz) : ∀ i, i < len → ∀ m x, (E i)[m]? = some x → slc off sz len E (off + i * sz + m) = some x := by
  intro i hi m x hx
  have h1 := (List.getElem?_eq_some_iff.1 hx).1
  rw [fits_length (hE i hi), hk] at h1
  exact slc_at hi h1 hx rfl
theorem slc_cell {w : World} {b : Nat} {μ : List Nat} {off sz len : Nat} {E : Nat → List Value} {ks : List CK} (hE : ∀ i, i < len → FitsAll ks (E i)) (hs : 0 < sz)
    (hg : ∀ n, n < len → ∀ m x, (E n)[m]? = some x → w.cell? ⟨b, off + n * sz + m, none⟩ = some x) : ∀ (o : Nat) (v : Value), slc off sz len E o = some v → w.cell? ⟨b, o, none⟩ = some v ∧ VR μ v v := by
  intro o v h
  obtain ⟨n, m, hn, rfl, hm⟩ := slc_some h hs
  exact ⟨hg n hn m v hm, ((hE n hn).vrs μ).2 m v v hm hm⟩
/-- What two say. -/
@[irreducible] def orB (f g : Nat → Option Value) (o : Nat) : Option Value := match f o with | some v => some v | none => g o
theorem orB_l {f g : Nat → Option Value} {o : Nat} {v : Value} (h : f o = some v) : orB f g o = some v := by unfold orB; rw [h]
theorem orB_r {f g : Nat → Option Value} {o : Nat} {v : Value} (hc : ∀ u, f o = some u → u = v) (h : g o = some v) : orB f g o = some v := by
  unfold orB
  cases hf : f o with
  | none => exact h
  | some u => rw [hc u hf]
theorem orB_some {f g : Nat → Option Value} {o : Nat} {v : Value} (h : orB f g o = some v) : f o = some v ∨ g o = some v := by
  unfold orB at h
  cases hf : f o with
  | none => rw [hf] at h; exact .inr h
  | some u => rw [hf] at h; exact .inl h
/-- From a contract that reads two blocks. -/
theorem walk_ro2 {f : FuncId} {args cargs : List Value} {g0 g1 : Nat → Option Value} (h : ACalls P f args [.ro g0, .ro g1] fun v _ => v = .bool true) {b0 b1 : Nat} (hne : b0 ≠ b1) (hv : VRs [b0, b1] args cargs) (w : World) (hb0 : b0 < w.heap.size) (hb1 : b1 < w.heap.size)
    (hg0 : ∀ (o : Nat) (v : Value), g0 o = some v → w.cell? ⟨b0, o, none⟩ = some v ∧ VR [b0, b1] v v) (hg1 : ∀ (o : Nat) (v : Value), g1 o = some v → w.cell? ⟨b1, o, none⟩ = some v ∧ VR [b0, b1] v v) :
    Calls P f cargs.toArray w fun e w' => e = .returned (.bool true) ∧ Below w.heap.size w w' := by
  obtain ⟨_, h2⟩ := h.out [b0, b1] w cargs hv ⟨rfl, by simp [hne], by simp [hb0, hb1], fun i b' c e hH _ => by
      match i with
      | 0 => simp at hH
      | 1 => simp at hH
      | i + 2 => simp at hH, fun i b' f' hH hμ o v hf => by
      match i with
      | 0 => simp at hH hμ; subst hH; subst hμ; exact ⟨v, (hg0 o v hf).1, (hg0 o v hf).2⟩
      | 1 => simp at hH hμ; subst hH; subst hμ; exact ⟨v, (hg1 o v hf).1, (hg1 o v hf).2⟩
      | i + 2 => simp at hH⟩
  refine h2.mono fun e w' hh => ?_
  obtain ⟨v, cv, μ', H', rfl, hvr, hr, hx, rfl⟩ := hh
  cases hvr
  exact ⟨rfl, hx.os, hx.tape, hx.output, hx.size, fun k hk => hx.same k hk (by
    rintro ⟨i, c, e, hi, hc⟩
    match i with
    | 0 => simp at hc
    | 1 => simp at hc
    | i + 2 => simp at hi)⟩
end Go.Aw
