/-
  What is proved here: 'TopMeet' of woodgraintop holds for every input.
-/
import Derived.Test.YtmdiokmkokjpiaaGreatRows
import Derived.WalkKit
import Derived.ProofKit
import Derived.OpenShut
import Derived.Test.YtmdiokmkokjpiaaGreatZxF
import Derived.Test.YtmdiokmkokjpiaaGreatCoreE
set_option linter.all false
set_option linter.unusedVariables false
set_option linter.unusedSimpArgs false
set_option linter.unnecessarySimpa false
namespace Go.Proofs.YtmdiokmkokjpiaaGreat.topMeet
open Go.ChangeShapes Go.WideShapes Go.ChangeAt Go.RowKit Go.Aw
set_option linter.unusedVariables false

theorem own : ownKnob Tryz.prog.godebug = none := by kernel_rfl

set_option maxRecDepth 100000 in
theorem lifted (os : Os) (started : os.Started) (H : Type) (enc : TypeId × Value → H) :
    ReturnsInHanded {} Tryz.checked os 5 .any (Rows.topMeetSpec.pre6 enc Tryz.prog Tryz.f5 Rows.topMeetRow.domain false) (Rows.topMeetSpec.post enc Tryz.prog Tryz.f5 false true false false) := by
  refine returnsInHanded_of_change (C := Tryz.checked) own started (by kernel_rfl) Tryz.func5
    (ChangeSpec.witness6 (enc := enc) (C := Tryz.checked) false ⟨#[], #[.agg #[.int .u8 0, .int .u8 0], .agg #[.int .u8 0, .int .u8 0]], []⟩ 8 (by kernel_rfl) (by kernel_rfl) (by kernel_rfl) (by kernel_rfl)) ?_
  intro W base args ds gs before hval0 hW hcnd _
  have hval : ∀ (j : Nat) t v, Tryz.f5.params[j]? = some t → args[j]? = some v → Value.okWide Tryz.prog W .any base t v := hval0
  have hW' := hW
  obtain ⟨p, q, hA0, hV, rfl, hfz, hnd⟩ := hW
  have hA : DataW.TrodAll enc Tryz.prog W 0 (fun _ => true) true Tryz.f5.params.toList args.toList ds p := hA0
  rw [Tryz.params5] at hA hval
  obtain ⟨v0, vs0, d0, ds0, p0, q0, hargs, rfl, rfl, h0, r0⟩ := trodAll_cons hA
  obtain ⟨v1, vs1, d1, ds1, p1, q1, rfl, rfl, rfl, h1, r1⟩ := trodAll_cons r0
  obtain ⟨rfl, rfl, rfl⟩ := trodAll_nil r1
  obtain rfl : args = #[v0, v1] := by cases args; simp_all
  obtain ⟨rfl, rfl⟩ := trodVars_none hV
  obtain ⟨c0, rfl, f0⟩ := open_flat tabOk (T := T) rfl rfl (ks := [.int .u8, .int .u8]) rfl (hval 0 44 v0 rfl rfl) h0
  obtain ⟨a0x0, c0x0, rfl, w0x0, f0x0⟩ := fits_int f0
  obtain ⟨a0x1, c0x1, rfl, w0x1, f0x1⟩ := fits_int f0x0
  obtain rfl := fits_nil f0x1
  obtain ⟨c1, rfl, f1⟩ := open_flat tabOk (T := T) rfl rfl (ks := [.int .u8, .int .u8]) rfl (hval 1 44 v1 rfl rfl) h1
  obtain ⟨a1x0, c1x0, rfl, w1x0, f1x0⟩ := fits_int f1
  obtain ⟨a1x1, c1x1, rfl, w1x1, f1x1⟩ := fits_int f1x0
  obtain rfl := fits_nil f1x1
  clear hA0 hval0
  refine (walk_of (f := 5) (args := [.agg #[.int .u8 a0x0, .int .u8 a0x1], .agg #[.int .u8 a1x0, .int .u8 a1x1]]) (walk_TopMeet a0x0 a0x1 a1x0 a1x1 w0x0 w0x1 w1x0 w1x1) (okvs_sound (n := 6) rfl []) W).mono fun e W' ⟨he, hbelow⟩ => ?_
  subst he
  exact ⟨_, rfl, post_law (by kernel_rfl) hW' rfl (by kernel_rfl) Tryz.underlying4 rfl rfl hbelow⟩

theorem over : Rows.topMeetRow.holds Tryz.pinned (OpenSpec.ofChange Rows.topMeetSpec) :=
  OpenClaim.holds_of_wide 5 Tryz.f5 rfl rfl rfl rfl rfl rfl rfl ⟨rfl, rfl, rfl, rfl, rfl⟩ rfl rfl rfl rfl rfl (by kernel_rfl) Tryz.func5 (by kernel_rfl)
    (of_decide_eq_true (by kernel_rfl)) (by unfold Func.isWrapper; first | (rw [if_pos (by decide +kernel)]; kernel_rfl) | (rw [if_neg (by decide +kernel)]; exact ⟨rfl, rfl⟩))
    (fun os started H enc _ => lifted os started H enc)

/-- The statement. -/
theorem proved : Rows.TopMeetSaid :=
  over
#print axioms proved
end Go.Proofs.YtmdiokmkokjpiaaGreat.topMeet
