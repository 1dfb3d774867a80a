/-
  What is proved here: 'TopField' of woodgraintop holds for every input.
-/
import Derived.Test.YtmdiokmkokjpiaaGreatRows
import Derived.WalkKit
import Derived.ProofKit
import Derived.OpenShut
import Derived.Test.YtmdiokmkokjpiaaGreatZtF
import Derived.Test.YtmdiokmkokjpiaaGreatCore29
set_option linter.all false
set_option linter.unusedVariables false
set_option linter.unusedSimpArgs false
set_option linter.unnecessarySimpa false
namespace Go.Proofs.YtmdiokmkokjpiaaGreat.topField
open Go.ChangeShapes Go.WideShapes Go.ChangeAt Go.RowKit Go.Aw
set_option linter.unusedVariables false

theorem own : ownKnob Tryz.prog.godebug = none := by kernel_rfl

set_option maxRecDepth 100000 in
theorem lifted (os : Os) (started : os.Started) (H : Type) (enc : TypeId × Value → H) :
    ReturnsInHanded {} Tryz.checked os 3 .any (Rows.topFieldSpec.pre6 enc Tryz.prog Tryz.f3 Rows.topFieldRow.domain false) (Rows.topFieldSpec.post enc Tryz.prog Tryz.f3 false true false false) := by
  refine returnsInHanded_of_change (C := Tryz.checked) own started (by kernel_rfl) Tryz.func3
    (ChangeSpec.witness6 (enc := enc) (C := Tryz.checked) false ⟨#[], #[.agg #[.int .u8 0, .int .u8 0, .int .u8 0], .int .u8 0, .agg #[.int .u8 0, .int .u8 0, .int .u8 0, .int .u8 0]], []⟩ 8 (by kernel_rfl) (by kernel_rfl) (by kernel_rfl) (by kernel_rfl)) ?_
  intro W base args ds gs before hval0 hW hcnd _
  have hval : ∀ (j : Nat) t v, Tryz.f3.params[j]? = some t → args[j]? = some v → Value.okWide Tryz.prog W .any base t v := hval0
  have hW' := hW
  obtain ⟨p, q, hA0, hV, rfl, hfz, hnd⟩ := hW
  have hA : DataW.TrodAll enc Tryz.prog W 0 (fun _ => true) true Tryz.f3.params.toList args.toList ds p := hA0
  rw [Tryz.params3] at hA hval
  obtain ⟨v0, vs0, d0, ds0, p0, q0, hargs, rfl, rfl, h0, r0⟩ := trodAll_cons hA
  obtain ⟨v1, vs1, d1, ds1, p1, q1, rfl, rfl, rfl, h1, r1⟩ := trodAll_cons r0
  obtain ⟨v2, vs2, d2, ds2, p2, q2, rfl, rfl, rfl, h2, r2⟩ := trodAll_cons r1
  obtain ⟨rfl, rfl, rfl⟩ := trodAll_nil r2
  obtain rfl : args = #[v0, v1, v2] := by cases args; simp_all
  obtain ⟨rfl, rfl⟩ := trodVars_none hV
  obtain ⟨c0, rfl, f0⟩ := open_flat tabOk (T := T) rfl rfl (ks := [.int .u8, .int .u8, .int .u8]) rfl (hval 0 22 v0 rfl rfl) h0
  obtain ⟨a0x0, c0x0, rfl, w0x0, f0x0⟩ := fits_int f0
  obtain ⟨a0x1, c0x1, rfl, w0x1, f0x1⟩ := fits_int f0x0
  obtain ⟨a0x2, c0x2, rfl, w0x2, f0x2⟩ := fits_int f0x1
  obtain rfl := fits_nil f0x2
  obtain ⟨a1, rfl, rfl, rfl, w1⟩ := open_int Tryz.underlying5 (hval 1 5 v1 rfl rfl) h1
  obtain ⟨c2, rfl, f2⟩ := open_flat tabOk (T := T) rfl rfl (ks := [.int .u8, .int .u8, .int .u8, .int .u8]) rfl (hval 2 23 v2 rfl rfl) h2
  obtain ⟨a2x0, c2x0, rfl, w2x0, f2x0⟩ := fits_int f2
  obtain ⟨a2x1, c2x1, rfl, w2x1, f2x1⟩ := fits_int f2x0
  obtain ⟨a2x2, c2x2, rfl, w2x2, f2x2⟩ := fits_int f2x1
  obtain ⟨a2x3, c2x3, rfl, w2x3, f2x3⟩ := fits_int f2x2
  obtain rfl := fits_nil f2x3
  clear hA0 hval0
  refine (walk_of (f := 3) (args := [.agg #[.int .u8 a0x0, .int .u8 a0x1, .int .u8 a0x2], .int .u8 a1, .agg #[.int .u8 a2x0, .int .u8 a2x1, .int .u8 a2x2, .int .u8 a2x3]]) (walk_TopField a0x0 a0x1 a0x2 a1 a2x0 a2x1 a2x2 a2x3 w0x0 w0x1 w0x2 w1 w2x0 w2x1 w2x2 w2x3) (okvs_sound (n := 6) rfl []) W).mono fun e W' ⟨he, hbelow⟩ => ?_
  subst he
  exact ⟨_, rfl, post_law (by kernel_rfl) hW' rfl (by kernel_rfl) Tryz.underlying4 rfl rfl hbelow⟩

theorem over : Rows.topFieldRow.holds Tryz.pinned (OpenSpec.ofChange Rows.topFieldSpec) :=
  OpenClaim.holds_of_wide 3 Tryz.f3 rfl rfl rfl rfl rfl rfl rfl ⟨rfl, rfl, rfl, rfl, rfl⟩ rfl rfl rfl rfl rfl (by kernel_rfl) Tryz.func3 (by kernel_rfl)
    (of_decide_eq_true (by kernel_rfl)) (by unfold Func.isWrapper; first | (rw [if_pos (by decide +kernel)]; kernel_rfl) | (rw [if_neg (by decide +kernel)]; exact ⟨rfl, rfl⟩))
    (fun os started H enc _ => lifted os started H enc)

/-- The statement. -/
theorem proved : Rows.TopFieldSaid :=
  over
#print axioms proved
end Go.Proofs.YtmdiokmkokjpiaaGreat.topField
