/-
  What is proved here: 'RiotPlays' of woodgrainlaw08 holds for every input.
-/
import Derived.Test.YtbngapokpmifnaaRows
import Derived.WalkKit
import Derived.ProofKit
import Derived.OpenShut
import Derived.Test.YtbngapokpmifnaaRtfF
import Derived.Test.YtbngapokpmifnaaCore29
set_option linter.all false
set_option linter.unusedVariables false
set_option linter.unusedSimpArgs false
set_option linter.unnecessarySimpa false
namespace Go.Proofs.Ytbngapokpmifnaa.riotPlays
open Go.ChangeShapes Go.WideShapes Go.ChangeAt Go.RowKit Go.Aw
set_option linter.unusedVariables false

theorem own : ownKnob Try.prog.godebug = none := by kernel_rfl

set_option maxRecDepth 100000 in
theorem lifted (os : Os) (started : os.Started) (H : Type) (enc : TypeId × Value → H) :
    ReturnsInHanded {} Try.checked os 12 .any (Rows.riotPlaysSpec.pre6 enc Try.prog Try.f12 Rows.riotPlaysRow.domain false) (Rows.riotPlaysSpec.post enc Try.prog Try.f12 false true false false) := by
  refine returnsInHanded_of_change (C := Try.checked) own started (by kernel_rfl) Try.func12
    (ChangeSpec.witness6 (enc := enc) (C := Try.checked) false ⟨#[], #[.agg #[.int .u8 0, .int .u8 0, .int .u8 0, .int .u8 0, .int .u8 0, .int .u8 0, .int .u8 0, .int .u8 0, .int .u8 0, .int .u8 0, .int .u8 0, .int .u8 0, .int .u8 0, .int .u8 0, .int .u8 0, .int .u8 0, .int .u8 0, .int .u8 0, .int .u8 0, .int .u8 0, .int .u8 0, .int .u8 0, .int .u8 0, .int .u8 0, .int .u8 0, .int .u8 0, .int .u8 0, .int .u8 0, .int .u8 0, .int .u8 0, .int .u8 0, .int .u8 0, .int .u8 0, .int .u8 0, .int .u8 0, .int .u8 0, .int .u8 0, .int .u8 0, .int .u8 0, .int .u8 0, .int .u8 0, .int .u8 0, .int .u8 0, .int .u8 0, .int .u8 0, .int .u8 0, .int .u8 0, .int .u8 0, .int .u8 0, .int .u8 0, .int .u8 0, .int .u8 0, .int .u8 0, .int .u8 0, .int .u8 0, .int .u8 0, .int .u8 0, .int .u8 0, .int .u8 0, .int .u8 0, .int .u8 0, .int .u8 0, .int .u8 0, .int .u8 0, .int .u8 0, .int .u8 0, .int .u8 0, .int .u8 0, .int .u8 0, .int .u8 0, .int .u8 0, .int .u8 0, .int .u8 0, .int .u8 0, .int .u8 0, .int .u8 0, .int .u8 0, .int .u8 0, .int .u8 0, .int .u8 0, .int .u8 0, .int .u8 0, .int .u8 0, .int .u8 0, .int .u8 0, .int .u8 0, .int .u8 0, .int .u8 0, .int .u8 0, .int .u8 0, .int .u8 0, .int .u8 0, .int .u8 0, .int .u8 0, .int .u8 0, .int .u8 0, .int .u8 0, .int .u8 0, .int .u8 0, .int .u8 0, .int .u8 0, .int .u8 0, .int .u8 0, .int .u8 0, .int .u8 0, .int .u8 0, .int .u8 0, .int .u8 0, .int .u8 0, .int .u8 0, .int .u8 0, .int .u8 0, .int .u8 0, .int .u8 0, .int .u8 0, .int .u8 0, .int .u8 0, .int .u8 0, .int .u8 0, .int .u8 0, .int .u8 0, .int .u8 0, .int .u8 0, .int .u8 0, .int .u8 0, .int .u8 0, .int .u8 0, .int .u8 0], .slice none 0 0], []⟩ 8 (by kernel_rfl) (by kernel_rfl) (by kernel_rfl) (by kernel_rfl)) ?_
  intro W base args ds gs before hval0 hW hcnd _
  have hval : ∀ (j : Nat) t v, Try.f12.params[j]? = some t → args[j]? = some v → Value.okWide Try.prog W .any base t v := hval0
  have hW' := hW
  obtain ⟨p, q, hA0, hV, rfl, hfz, hnd⟩ := hW
  have hA : DataW.TrodAll enc Try.prog W 0 (fun _ => true) true Try.f12.params.toList args.toList ds p := hA0
  rw [Try.params12] at hA hval
  obtain ⟨v0, vs0, d0, ds0, p0, q0, hargs, rfl, rfl, h0, r0⟩ := trodAll_cons hA
  obtain ⟨v1, vs1, d1, ds1, p1, q1, rfl, rfl, rfl, h1, r1⟩ := trodAll_cons r0
  obtain ⟨rfl, rfl, rfl⟩ := trodAll_nil r1
  obtain rfl : args = #[v0, v1] := by cases args; simp_all
  obtain ⟨rfl, rfl⟩ := trodVars_none hV
  obtain ⟨c0, rfl, f0⟩ := open_flat tabOk (T := T) rfl rfl (ks := _) rfl (hval 0 70 v0 rfl rfl) h0
  clear hA0 hval0
  rcases open_flats tabOk (T := T) rfl rfl rfl (ks := [.int .i64, .int .u16, .int .u16, .int .u8, .int .u8]) rfl (hval 1 67 v1 rfl rfl) h1 with rfl | ⟨b, off, len, cap, E, rfl, hlc, hcap, hb, hE, hg⟩
  · refine (walk_of (f := 12) (args := [.agg c0.toArray, .slice none 0 0]) (walk_RiotPlays_nil c0 f0) (VRs.cons (VR.aggs (FitsAll.vrs f0 [])) (VRs.cons (okv_sound 6 _ rfl _) VRs.nil)) W).mono fun e W' ⟨he, hbelow⟩ => ?_
    subst he
    exact ⟨_, rfl, post_law (by kernel_rfl) hW' rfl (by kernel_rfl) Try.underlying4 rfl rfl hbelow⟩
  · refine (walk_slc (f := 12) (args := [.agg c0.toArray, .slice (some ⟨0, off, none⟩) len cap]) (cargs := [.agg c0.toArray, .slice (some ⟨b, off, none⟩) len cap]) (walk_RiotPlays c0 f0 off len cap (Nat.le_trans hlc hcap) E hE) (by decide) (VRs.cons (VR.aggs (FitsAll.vrs f0 [b])) (VRs.cons (.sl 0 b _ _ _ rfl) VRs.nil)) W hb hE hg).mono fun e W' ⟨he, hbelow⟩ => ?_
    subst he
    exact ⟨_, rfl, post_law (by kernel_rfl) hW' rfl (by kernel_rfl) Try.underlying4 rfl rfl hbelow⟩

theorem over : Rows.riotPlaysRow.holds Try.pinned (OpenSpec.ofChange Rows.riotPlaysSpec) :=
  OpenClaim.holds_of_wide 12 Try.f12 rfl rfl rfl rfl rfl rfl rfl ⟨rfl, rfl, rfl, rfl, rfl⟩ rfl rfl rfl rfl rfl (by kernel_rfl) Try.func12 (by kernel_rfl)
    (of_decide_eq_true (by kernel_rfl)) (by unfold Func.isWrapper; first | (rw [if_pos (by decide +kernel)]; kernel_rfl) | (rw [if_neg (by decide +kernel)]; exact ⟨rfl, rfl⟩))
    (fun os started H enc _ => lifted os started H enc)

/-- The statement. -/
theorem proved : Rows.RiotPlaysSaid :=
  over
#print axioms proved
end Go.Proofs.Ytbngapokpmifnaa.riotPlays
