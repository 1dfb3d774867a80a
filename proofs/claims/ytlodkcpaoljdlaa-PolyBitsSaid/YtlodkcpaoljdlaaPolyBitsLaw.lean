/-
  What is proved here: 'PolyBits' of woodgrainlaw01 holds for every input.
-/
import Derived.Test.YtlodkcpaoljdlaaRows
import Derived.WalkKit
import Derived.ProofKit
import Derived.OpenShut
import Derived.Test.YtlodkcpaoljdlaaLawbF
set_option linter.all false
set_option linter.unusedVariables false
set_option linter.unusedSimpArgs false
set_option linter.unnecessarySimpa false
namespace Go.Proofs.Ytlodkcpaoljdlaa.polyBits
open Go.ChangeShapes Go.WideShapes Go.ChangeAt Go.RowKit Go.Aw
set_option linter.unusedVariables false

theorem own : ownKnob Try.prog.godebug = none := by kernel_rfl

set_option maxRecDepth 100000 in
theorem lifted (os : Os) (started : os.Started) (H : Type) (enc : TypeId × Value → H) :
    ReturnsInHanded {} Try.checked os 4 .any (Rows.polyBitsSpec.pre6 enc Try.prog Try.f4 Rows.polyBitsRow.domain false) (Rows.polyBitsSpec.post enc Try.prog Try.f4 false true false false) := by
  refine returnsInHanded_of_change (C := Try.checked) own started (by kernel_rfl) Try.func4
    (ChangeSpec.witness6 (enc := enc) (C := Try.checked) false ⟨#[], #[.agg #[.int .i64 0, .int .i64 0, .int .u16 0, .int .i64 0]], []⟩ 8 (by kernel_rfl) (by kernel_rfl) (by kernel_rfl) (by kernel_rfl)) ?_
  intro W base args ds gs before hval0 hW hcnd _
  have hval : ∀ (j : Nat) t v, Try.f4.params[j]? = some t → args[j]? = some v → Value.okWide Try.prog W .any base t v := hval0
  have hW' := hW
  obtain ⟨p, q, hA0, hV, rfl, hfz, hnd⟩ := hW
  have hA : DataW.TrodAll enc Try.prog W 0 (fun _ => true) true Try.f4.params.toList args.toList ds p := hA0
  rw [Try.params4] at hA hval
  obtain ⟨v0, vs0, d0, ds0, p0, q0, hargs, rfl, rfl, h0, r0⟩ := trodAll_cons hA
  obtain ⟨rfl, rfl, rfl⟩ := trodAll_nil r0
  obtain rfl : args = #[v0] := by cases args; simp_all
  obtain ⟨rfl, rfl⟩ := trodVars_none hV
  obtain ⟨c0, rfl, f0⟩ := open_flat tabOk (T := T) rfl rfl (ks := [.int .i64, .int .i64, .int .u16, .int .i64]) rfl (hval 0 39 v0 rfl rfl) h0
  obtain ⟨a0x0, c0x0, rfl, w0x0, f0x0⟩ := fits_int f0
  obtain ⟨a0x1, c0x1, rfl, w0x1, f0x1⟩ := fits_int f0x0
  obtain ⟨a0x2, c0x2, rfl, w0x2, f0x2⟩ := fits_int f0x1
  obtain ⟨a0x3, c0x3, rfl, w0x3, f0x3⟩ := fits_int f0x2
  obtain rfl := fits_nil f0x3
  clear hA0 hval0
  refine (walk_of (f := 4) (args := [.agg #[.int .i64 a0x0, .int .i64 a0x1, .int .u16 a0x2, .int .i64 a0x3]]) (walk_PolyBits a0x0 a0x1 a0x2 a0x3 w0x0 w0x1 w0x2 w0x3) (okvs_sound (n := 6) rfl []) W).mono fun e W' ⟨he, hbelow⟩ => ?_
  subst he
  exact ⟨_, rfl, post_law (by kernel_rfl) hW' rfl (by kernel_rfl) Try.underlying4 rfl rfl hbelow⟩

theorem over : Rows.polyBitsRow.holds Try.pinned (OpenSpec.ofChange Rows.polyBitsSpec) :=
  OpenClaim.holds_of_wide 4 Try.f4 rfl rfl rfl rfl rfl rfl rfl ⟨rfl, rfl, rfl, rfl, rfl⟩ rfl rfl rfl rfl rfl (by kernel_rfl) Try.func4 (by kernel_rfl)
    (of_decide_eq_true (by kernel_rfl)) (by unfold Func.isWrapper; first | (rw [if_pos (by decide +kernel)]; kernel_rfl) | (rw [if_neg (by decide +kernel)]; exact ⟨rfl, rfl⟩))
    (fun os started H enc _ => lifted os started H enc)

/-- The statement. -/
theorem proved : Rows.PolyBitsSaid :=
  over
#print axioms proved
end Go.Proofs.Ytlodkcpaoljdlaa.polyBits
