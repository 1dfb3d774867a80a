/-
  What is proved here: 'MotionCopies' of woodgrainlaw17 holds for every input.
-/
import Derived.Test.YtimihamgemboeaaRows
import Derived.WalkKit
import Derived.ProofKit
import Derived.OpenShut
import Derived.Test.YtimihamgemboeaaMcopiesF
set_option linter.all false
set_option linter.unusedVariables false
set_option linter.unusedSimpArgs false
set_option linter.unnecessarySimpa false
namespace Go.Proofs.Ytimihamgemboeaa.motionCopies
open Go.ChangeShapes Go.WideShapes Go.ChangeAt Go.RowKit Go.Aw
set_option linter.unusedVariables false

theorem own : ownKnob Try.prog.godebug = none := by kernel_rfl

set_option maxRecDepth 100000 in
theorem lifted (os : Os) (started : os.Started) (H : Type) (enc : TypeId × Value → H) :
    ReturnsInHanded {} Try.checked os 7 .any (Rows.motionCopiesSpec.pre6 enc Try.prog Try.f7 Rows.motionCopiesRow.domain false) (Rows.motionCopiesSpec.post enc Try.prog Try.f7 false true false false) := by
  refine returnsInHanded_of_change (C := Try.checked) own started (by kernel_rfl) Try.func7
    (ChangeSpec.witness6 (enc := enc) (C := Try.checked) false ⟨#[], #[.slice none 0 0, .int .i64 0, .agg #[.int .u8 0, .int .u8 0, .int .u8 0, .int .u8 0, .int .u8 0]], []⟩ 8 (by kernel_rfl) (by kernel_rfl) (by kernel_rfl) (by kernel_rfl)) ?_
  intro W base args ds gs before hval0 hW hcnd _
  have hval : ∀ (j : Nat) t v, Try.f7.params[j]? = some t → args[j]? = some v → Value.okWide Try.prog W .any base t v := hval0
  have hW' := hW
  obtain ⟨p, q, hA0, hV, rfl, hfz, hnd⟩ := hW
  have hA : DataW.TrodAll enc Try.prog W 0 (fun _ => true) true Try.f7.params.toList args.toList ds p := hA0
  rw [Try.params7] at hA hval
  obtain ⟨v0, vs0, d0, ds0, p0, q0, hargs, rfl, rfl, h0, r0⟩ := trodAll_cons hA
  obtain ⟨v1, vs1, d1, ds1, p1, q1, rfl, rfl, rfl, h1, r1⟩ := trodAll_cons r0
  obtain ⟨v2, vs2, d2, ds2, p2, q2, rfl, rfl, rfl, h2, r2⟩ := trodAll_cons r1
  obtain ⟨rfl, rfl, rfl⟩ := trodAll_nil r2
  obtain rfl : args = #[v0, v1, v2] := by cases args; simp_all
  obtain ⟨rfl, rfl⟩ := trodVars_none hV
  obtain ⟨a1, rfl, rfl, rfl, w1⟩ := open_int Try.underlying3 (hval 1 3 v1 rfl rfl) h1
  obtain ⟨c2, rfl, f2⟩ := open_flat tabOk (T := T) rfl rfl (ks := [.int .u8, .int .u8, .int .u8, .int .u8, .int .u8]) rfl (hval 2 26 v2 rfl rfl) h2
  obtain ⟨a2x0, c2x0, rfl, w2x0, f2⟩ := fits_int f2
  obtain ⟨a2x1, c2x1, rfl, w2x1, f2⟩ := fits_int f2
  obtain ⟨a2x2, c2x2, rfl, w2x2, f2⟩ := fits_int f2
  obtain ⟨a2x3, c2x3, rfl, w2x3, f2⟩ := fits_int f2
  obtain ⟨a2x4, c2x4, rfl, w2x4, f2⟩ := fits_int f2
  obtain rfl := fits_nil f2
  clear hA0 hval0
  rcases open_flats tabOk (T := T) rfl rfl rfl (ks := [.int .i64, .int .i64, .int .u8, .int .u8, .int .u8, .int .u8, .int .u8, .int .i64, .int .i64, .int .i64]) rfl (hval 0 34 v0 rfl rfl) h0 with rfl | ⟨b, off, len, cap, E, rfl, hlc, hcap, hb, hE, hg⟩
  · refine (walk_of (f := 7) (args := [.slice none 0 0, .int .i64 a1, .agg #[.int .u8 a2x0, .int .u8 a2x1, .int .u8 a2x2, .int .u8 a2x3, .int .u8 a2x4]]) (walk_MotionCopies_nil a1 a2x0 a2x1 a2x2 a2x3 a2x4 w1 w2x0 w2x1 w2x2 w2x3 w2x4) (VRs.cons (okv_sound 6 _ rfl _) (VRs.cons (okv_sound 6 _ rfl _) (VRs.cons (okv_sound 6 _ rfl _) VRs.nil))) W).mono fun e W' ⟨he, hbelow⟩ => ?_
    subst he
    exact ⟨_, rfl, post_law (by kernel_rfl) hW' rfl (by kernel_rfl) Try.underlying4 rfl rfl hbelow⟩
  · refine (walk_slc (f := 7) (args := [.slice (some ⟨0, off, none⟩) len cap, .int .i64 a1, .agg #[.int .u8 a2x0, .int .u8 a2x1, .int .u8 a2x2, .int .u8 a2x3, .int .u8 a2x4]]) (cargs := [.slice (some ⟨b, off, none⟩) len cap, .int .i64 a1, .agg #[.int .u8 a2x0, .int .u8 a2x1, .int .u8 a2x2, .int .u8 a2x3, .int .u8 a2x4]]) (walk_MotionCopies a1 a2x0 a2x1 a2x2 a2x3 a2x4 w1 w2x0 w2x1 w2x2 w2x3 w2x4 off len cap (Nat.le_trans hlc hcap) E hE) (by decide) (VRs.cons (.sl 0 b _ _ _ rfl) (VRs.cons (okv_sound 6 _ rfl _) (VRs.cons (okv_sound 6 _ rfl _) VRs.nil))) W hb hE hg).mono fun e W' ⟨he, hbelow⟩ => ?_
    subst he
    exact ⟨_, rfl, post_law (by kernel_rfl) hW' rfl (by kernel_rfl) Try.underlying4 rfl rfl hbelow⟩

theorem over : Rows.motionCopiesRow.holds Try.pinned (OpenSpec.ofChange Rows.motionCopiesSpec) :=
  OpenClaim.holds_of_wide 7 Try.f7 rfl rfl rfl rfl rfl rfl rfl ⟨rfl, rfl, rfl, rfl, rfl⟩ rfl rfl rfl rfl rfl (by kernel_rfl) Try.func7 (by kernel_rfl)
    (of_decide_eq_true (by kernel_rfl)) (by unfold Func.isWrapper; first | (rw [if_pos (by decide +kernel)]; kernel_rfl) | (rw [if_neg (by decide +kernel)]; exact ⟨rfl, rfl⟩))
    (fun os started H enc _ => lifted os started H enc)

/-- The statement. -/
theorem proved : Rows.MotionCopiesSaid :=
  over
#print axioms proved
end Go.Proofs.Ytimihamgemboeaa.motionCopies
