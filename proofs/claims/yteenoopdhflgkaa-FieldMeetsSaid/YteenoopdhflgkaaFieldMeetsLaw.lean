/-
  What is proved here: 'FieldMeets' of woodgrainlaw18 holds for every input.
-/
import Derived.Test.YteenoopdhflgkaaRows
import Derived.WalkKit
import Derived.ProofKit
import Derived.OpenShut
import Derived.Test.YteenoopdhflgkaaField4F
set_option linter.all false
set_option linter.unusedVariables false
set_option linter.unusedSimpArgs false
set_option linter.unnecessarySimpa false
namespace Go.Proofs.Yteenoopdhflgkaa.fieldMeets
open Go.ChangeShapes Go.WideShapes Go.ChangeAt Go.RowKit Go.Aw
set_option linter.unusedVariables false

theorem own : ownKnob Try.prog.godebug = none := by kernel_rfl

set_option maxRecDepth 100000 in
theorem lifted (os : Os) (started : os.Started) (H : Type) (enc : TypeId × Value → H) :
    ReturnsInHanded {} Try.checked os 5 .any (Rows.fieldMeetsSpec.pre6 enc Try.prog Try.f5 Rows.fieldMeetsRow.domain false) (Rows.fieldMeetsSpec.post enc Try.prog Try.f5 false true false false) := by
  refine returnsInHanded_of_change (C := Try.checked) own started (by kernel_rfl) Try.func5
    (ChangeSpec.witness6 (enc := enc) (C := Try.checked) false ⟨#[], #[.agg #[.bool false, .bool false, .bool false, .bool false, .bool false, .bool false], .agg #[.bool false, .bool false, .bool false, .bool false, .bool false, .bool false]], []⟩ 8 (by kernel_rfl) (by kernel_rfl) (by kernel_rfl) (by kernel_rfl)) ?_
  intro W base args ds gs before hval0 hW hcnd _
  have hval : ∀ (j : Nat) t v, Try.f5.params[j]? = some t → args[j]? = some v → Value.okWide Try.prog W .any base t v := hval0
  have hW' := hW
  obtain ⟨p, q, hA0, hV, rfl, hfz, hnd⟩ := hW
  have hA : DataW.TrodAll enc Try.prog W 0 (fun _ => true) true Try.f5.params.toList args.toList ds p := hA0
  rw [Try.params5] at hA hval
  obtain ⟨v0, vs0, d0, ds0, p0, q0, hargs, rfl, rfl, h0, r0⟩ := trodAll_cons hA
  obtain ⟨v1, vs1, d1, ds1, p1, q1, rfl, rfl, rfl, h1, r1⟩ := trodAll_cons r0
  obtain ⟨rfl, rfl, rfl⟩ := trodAll_nil r1
  obtain rfl : args = #[v0, v1] := by cases args; simp_all
  obtain ⟨rfl, rfl⟩ := trodVars_none hV
  obtain ⟨c0, rfl, f0⟩ := open_flat tabOk (T := T) rfl rfl (ks := [.bool, .bool, .bool, .bool, .bool, .bool]) rfl (hval 0 27 v0 rfl rfl) h0
  obtain ⟨a0x0, c0x0, rfl, f0x0⟩ := fits_bool f0
  obtain ⟨a0x1, c0x1, rfl, f0x1⟩ := fits_bool f0x0
  obtain ⟨a0x2, c0x2, rfl, f0x2⟩ := fits_bool f0x1
  obtain ⟨a0x3, c0x3, rfl, f0x3⟩ := fits_bool f0x2
  obtain ⟨a0x4, c0x4, rfl, f0x4⟩ := fits_bool f0x3
  obtain ⟨a0x5, c0x5, rfl, f0x5⟩ := fits_bool f0x4
  obtain rfl := fits_nil f0x5
  obtain ⟨c1, rfl, f1⟩ := open_flat tabOk (T := T) rfl rfl (ks := [.bool, .bool, .bool, .bool, .bool, .bool]) rfl (hval 1 27 v1 rfl rfl) h1
  obtain ⟨a1x0, c1x0, rfl, f1x0⟩ := fits_bool f1
  obtain ⟨a1x1, c1x1, rfl, f1x1⟩ := fits_bool f1x0
  obtain ⟨a1x2, c1x2, rfl, f1x2⟩ := fits_bool f1x1
  obtain ⟨a1x3, c1x3, rfl, f1x3⟩ := fits_bool f1x2
  obtain ⟨a1x4, c1x4, rfl, f1x4⟩ := fits_bool f1x3
  obtain ⟨a1x5, c1x5, rfl, f1x5⟩ := fits_bool f1x4
  obtain rfl := fits_nil f1x5
  clear hA0 hval0
  refine (walk_of (f := 5) (args := [.agg #[.bool a0x0, .bool a0x1, .bool a0x2, .bool a0x3, .bool a0x4, .bool a0x5], .agg #[.bool a1x0, .bool a1x1, .bool a1x2, .bool a1x3, .bool a1x4, .bool a1x5]]) (walk_FieldMeets a0x0 a0x1 a0x2 a0x3 a0x4 a0x5 a1x0 a1x1 a1x2 a1x3 a1x4 a1x5) (okvs_sound (n := 6) rfl []) W).mono fun e W' ⟨he, hbelow⟩ => ?_
  subst he
  exact ⟨_, rfl, post_law (by kernel_rfl) hW' rfl (by kernel_rfl) Try.underlying4 rfl rfl hbelow⟩

theorem over : Rows.fieldMeetsRow.holds Try.pinned (OpenSpec.ofChange Rows.fieldMeetsSpec) :=
  OpenClaim.holds_of_wide 5 Try.f5 rfl rfl rfl rfl rfl rfl rfl ⟨rfl, rfl, rfl, rfl, rfl⟩ rfl rfl rfl rfl rfl (by kernel_rfl) Try.func5 (by kernel_rfl)
    (of_decide_eq_true (by kernel_rfl)) (by unfold Func.isWrapper; first | (rw [if_pos (by decide +kernel)]; kernel_rfl) | (rw [if_neg (by decide +kernel)]; exact ⟨rfl, rfl⟩))
    (fun os started H enc _ => lifted os started H enc)

/-- The statement. -/
theorem proved : Rows.FieldMeetsSaid :=
  over
#print axioms proved
end Go.Proofs.Yteenoopdhflgkaa.fieldMeets
