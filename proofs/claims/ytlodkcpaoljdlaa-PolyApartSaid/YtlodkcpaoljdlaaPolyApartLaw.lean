/-
  What is proved here: 'PolyApart' of woodgrainlaw01 holds for every input.
-/
import Derived.Test.YtlodkcpaoljdlaaRows
import Derived.WalkKit
import Derived.ProofKit
import Derived.OpenShut
import Derived.Test.YtlodkcpaoljdlaaLawrF
set_option linter.all false
set_option linter.unusedVariables false
set_option linter.unusedSimpArgs false
set_option linter.unnecessarySimpa false
namespace Go.Proofs.Ytlodkcpaoljdlaa.polyApart
open Go.ChangeShapes Go.WideShapes Go.ChangeAt Go.RowKit Go.Aw
set_option linter.unusedVariables false

theorem own : ownKnob Try.prog.godebug = none := by kernel_rfl

set_option maxRecDepth 100000 in
theorem lifted (os : Os) (started : os.Started) (H : Type) (enc : TypeId × Value → H) :
    ReturnsInHanded {} Try.checked os 7 .any (Rows.polyApartSpec.pre6 enc Try.prog Try.f7 Rows.polyApartRow.domain false) (Rows.polyApartSpec.post enc Try.prog Try.f7 false true false false) := by
  refine returnsInHanded_of_change (C := Try.checked) own started (by kernel_rfl) Try.func7
    (ChangeSpec.witness6 (enc := enc) (C := Try.checked) false ⟨#[], #[.int .i64 0, .int .i64 0, .agg #[.int .u16 0, .int .u16 0]], []⟩ 8 (by kernel_rfl) (by kernel_rfl) (by kernel_rfl) (by kernel_rfl)) ?_
  intro W base args ds gs before hval0 hW hcnd _
  have hval : ∀ (j : Nat) t v, Try.f7.params[j]? = some t → args[j]? = some v → Value.okWide Try.prog W .any base t v := hval0
  have hW' := hW
  obtain ⟨p, q, hA0, hV, rfl, hfz, hnd⟩ := hW
  have hA : DataW.TrodAll enc Try.prog W 0 (fun _ => true) true Try.f7.params.toList args.toList ds p := hA0
  rw [Try.params7] at hA hval
  obtain ⟨v0, vs0, d0, ds0, p0, q0, hargs, rfl, rfl, h0, r0⟩ := trodAll_cons hA
  obtain ⟨v1, vs1, d1, ds1, p1, q1, rfl, rfl, rfl, h1, r1⟩ := trodAll_cons r0
  obtain ⟨v2, vs2, d2, ds2, p2, q2, rfl, rfl, rfl, h2, r2⟩ := trodAll_cons r1
  obtain ⟨rfl, rfl, rfl⟩ := trodAll_nil r2
  obtain rfl : args = #[v0, v1, v2] := by cases args; simp_all
  obtain ⟨rfl, rfl⟩ := trodVars_none hV
  obtain ⟨a0, rfl, rfl, rfl, w0⟩ := open_int Try.underlying3 (hval 0 3 v0 rfl rfl) h0
  obtain ⟨a1, rfl, rfl, rfl, w1⟩ := open_int Try.underlying3 (hval 1 3 v1 rfl rfl) h1
  obtain ⟨c2, rfl, f2⟩ := open_flat tabOk (T := T) rfl rfl (ks := [.int .u16, .int .u16]) rfl (hval 2 52 v2 rfl rfl) h2
  obtain ⟨a2x0, c2x0, rfl, w2x0, f2x0⟩ := fits_int f2
  obtain ⟨a2x1, c2x1, rfl, w2x1, f2x1⟩ := fits_int f2x0
  obtain rfl := fits_nil f2x1
  clear hA0 hval0
  refine (walk_of (f := 7) (args := [.int .i64 a0, .int .i64 a1, .agg #[.int .u16 a2x0, .int .u16 a2x1]]) (walk_PolyApart a0 a1 a2x0 a2x1 w0 w1 w2x0 w2x1) (okvs_sound (n := 6) rfl []) W).mono fun e W' ⟨he, hbelow⟩ => ?_
  subst he
  exact ⟨_, rfl, post_law (by kernel_rfl) hW' rfl (by kernel_rfl) Try.underlying4 rfl rfl hbelow⟩

theorem over : Rows.polyApartRow.holds Try.pinned (OpenSpec.ofChange Rows.polyApartSpec) :=
  OpenClaim.holds_of_wide 7 Try.f7 rfl rfl rfl rfl rfl rfl rfl ⟨rfl, rfl, rfl, rfl, rfl⟩ rfl rfl rfl rfl rfl (by kernel_rfl) Try.func7 (by kernel_rfl)
    (of_decide_eq_true (by kernel_rfl)) (by unfold Func.isWrapper; first | (rw [if_pos (by decide +kernel)]; kernel_rfl) | (rw [if_neg (by decide +kernel)]; exact ⟨rfl, rfl⟩))
    (fun os started H enc _ => lifted os started H enc)

/-- The statement. -/
theorem proved : Rows.PolyApartSaid :=
  over
#print axioms proved
end Go.Proofs.Ytlodkcpaoljdlaa.polyApart
