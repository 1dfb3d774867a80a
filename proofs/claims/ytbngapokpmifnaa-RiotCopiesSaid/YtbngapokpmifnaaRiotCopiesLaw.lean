/-
  What is proved here: 'RiotCopies' of woodgrainlaw08 holds for every input.
-/
import Derived.Test.YtbngapokpmifnaaRows
import Derived.WalkKit
import Derived.ProofKit
import Derived.OpenShut
import Derived.Test.YtbngapokpmifnaaRiot10F
import Derived.Test.YtbngapokpmifnaaCore29
set_option linter.all false
set_option linter.unusedVariables false
set_option linter.unusedSimpArgs false
set_option linter.unnecessarySimpa false
namespace Go.Proofs.Ytbngapokpmifnaa.riotCopies
open Go.ChangeShapes Go.WideShapes Go.ChangeAt Go.RowKit Go.Aw
set_option linter.unusedVariables false

theorem own : ownKnob Try.prog.godebug = none := by kernel_rfl

set_option maxRecDepth 100000 in
theorem lifted (os : Os) (started : os.Started) (H : Type) (enc : TypeId × Value → H) :
    ReturnsInHanded {} Try.checked os 13 .any (Rows.riotCopiesSpec.pre6 enc Try.prog Try.f13 Rows.riotCopiesRow.domain false) (Rows.riotCopiesSpec.post enc Try.prog Try.f13 false true false false) := by
  refine returnsInHanded_of_change (C := Try.checked) own started (by kernel_rfl) Try.func13
    (ChangeSpec.witness6 (enc := enc) (C := Try.checked) false ⟨#[], #[.slice none 0 0, .slice none 0 0], []⟩ 8 (by kernel_rfl) (by kernel_rfl) (by kernel_rfl) (by kernel_rfl)) ?_
  intro W base args ds gs before hval0 hW hcnd _
  have hval : ∀ (j : Nat) t v, Try.f13.params[j]? = some t → args[j]? = some v → Value.okWide Try.prog W .any base t v := hval0
  have hW' := hW
  obtain ⟨p, q, hA0, hV, rfl, hfz, hnd⟩ := hW
  have hA : DataW.TrodAll enc Try.prog W 0 (fun _ => true) true Try.f13.params.toList args.toList ds p := hA0
  rw [Try.params13] at hA hval
  obtain ⟨v0, vs0, d0, ds0, p0, q0, hargs, rfl, rfl, h0, r0⟩ := trodAll_cons hA
  obtain ⟨v1, vs1, d1, ds1, p1, q1, rfl, rfl, rfl, h1, r1⟩ := trodAll_cons r0
  obtain ⟨rfl, rfl, rfl⟩ := trodAll_nil r1
  obtain rfl : args = #[v0, v1] := by cases args; simp_all
  obtain ⟨rfl, rfl⟩ := trodVars_none hV
  clear hA0 hval0
  rcases open_flats tabOk (T := T) rfl rfl rfl (ks := [.int .i64, .int .u16, .int .u16, .int .u8, .int .u8]) rfl (hval 0 67 v0 rfl rfl) h0 with rfl | ⟨b0, off0, len0, cap0, E0, rfl, hlc0, hcap0, hb0, hE0, hg0⟩
  · rcases open_flats tabOk (T := T) rfl rfl rfl (ks := [.int .i64, .int .u16, .int .u16, .int .u8, .int .u8]) rfl (hval 1 67 v1 rfl rfl) h1 with rfl | ⟨b1, off1, len1, cap1, E1, rfl, hlc1, hcap1, hb1, hE1, hg1⟩
    · refine (walk_of (f := 13) (args := [.slice none 0 0, .slice none 0 0]) (walk_RiotCopies_nn ) (VRs.cons (okv_sound 6 _ rfl _) (VRs.cons (okv_sound 6 _ rfl _) VRs.nil)) W).mono fun e W' ⟨he, hbelow⟩ => ?_
      subst he
      exact ⟨_, rfl, post_law (by kernel_rfl) hW' rfl (by kernel_rfl) Try.underlying4 rfl rfl hbelow⟩
    · refine (walk_ro (f := 13) (args := [.slice none 0 0, .slice (some ⟨0, off1, none⟩) len1 cap1]) (cargs := [.slice none 0 0, .slice (some ⟨b1, off1, none⟩) len1 cap1]) (walk_RiotCopies_ns  off1 len1 cap1 (Nat.le_trans hlc1 hcap1) E1 hE1 (slc off1 5 len1 E1) (slc_fact (sz := 5) hE1 rfl)) (VRs.cons (okv_sound 6 _ rfl _) (VRs.cons (.sl 0 b1 _ _ _ rfl) VRs.nil)) W hb1 (slc_cell hE1 (by decide) hg1)).mono fun e W' ⟨he, hbelow⟩ => ?_
      subst he
      exact ⟨_, rfl, post_law (by kernel_rfl) hW' rfl (by kernel_rfl) Try.underlying4 rfl rfl hbelow⟩
  · rcases open_flats tabOk (T := T) rfl rfl rfl (ks := [.int .i64, .int .u16, .int .u16, .int .u8, .int .u8]) rfl (hval 1 67 v1 rfl rfl) h1 with rfl | ⟨b1, off1, len1, cap1, E1, rfl, hlc1, hcap1, hb1, hE1, hg1⟩
    · refine (walk_ro (f := 13) (args := [.slice (some ⟨0, off0, none⟩) len0 cap0, .slice none 0 0]) (cargs := [.slice (some ⟨b0, off0, none⟩) len0 cap0, .slice none 0 0]) (walk_RiotCopies_sn  off0 len0 cap0 (Nat.le_trans hlc0 hcap0) E0 hE0 (slc off0 5 len0 E0) (slc_fact (sz := 5) hE0 rfl)) (VRs.cons (.sl 0 b0 _ _ _ rfl) (VRs.cons (okv_sound 6 _ rfl _) VRs.nil)) W hb0 (slc_cell hE0 (by decide) hg0)).mono fun e W' ⟨he, hbelow⟩ => ?_
      subst he
      exact ⟨_, rfl, post_law (by kernel_rfl) hW' rfl (by kernel_rfl) Try.underlying4 rfl rfl hbelow⟩
    · by_cases hne : b0 = b1
      · subst hne
        have c0 := slc_cell (μ := [b0]) hE0 (sz := 5) (by decide) hg0
        have c1 := slc_cell (μ := [b0]) hE1 (sz := 5) (by decide) hg1
        refine (walk_ro (f := 13) (args := [.slice (some ⟨0, off0, none⟩) len0 cap0, .slice (some ⟨0, off1, none⟩) len1 cap1]) (cargs := [.slice (some ⟨b0, off0, none⟩) len0 cap0, .slice (some ⟨b0, off1, none⟩) len1 cap1]) (walk_RiotCopies_sb  off0 len0 cap0 (Nat.le_trans hlc0 hcap0) E0 hE0 off1 len1 cap1 (Nat.le_trans hlc1 hcap1) E1 hE1 (orB (slc off0 5 len0 E0) (slc off1 5 len1 E1)) (fun i hi m x hx => orB_l (slc_fact (sz := 5) hE0 rfl i hi m x hx)) (fun i hi m x hx => orB_r (fun u hu => by have p1 := (c0 _ _ hu).1; have p2 := (c1 _ _ (slc_fact (sz := 5) hE1 rfl i hi m x hx)).1; rw [p1] at p2; cases p2; rfl) (slc_fact (sz := 5) hE1 rfl i hi m x hx))) (VRs.cons (.sl 0 b0 _ _ _ rfl) (VRs.cons (.sl 0 b0 _ _ _ rfl) VRs.nil)) W hb0 (fun o v h => (orB_some h).elim (c0 o v) (c1 o v))).mono fun e W' ⟨he, hbelow⟩ => ?_
        subst he
        exact ⟨_, rfl, post_law (by kernel_rfl) hW' rfl (by kernel_rfl) Try.underlying4 rfl rfl hbelow⟩
      · refine (walk_ro2 (f := 13) (args := [.slice (some ⟨0, off0, none⟩) len0 cap0, .slice (some ⟨1, off1, none⟩) len1 cap1]) (cargs := [.slice (some ⟨b0, off0, none⟩) len0 cap0, .slice (some ⟨b1, off1, none⟩) len1 cap1]) (walk_RiotCopies_ss  off0 len0 cap0 (Nat.le_trans hlc0 hcap0) E0 hE0 off1 len1 cap1 (Nat.le_trans hlc1 hcap1) E1 hE1 (slc off0 5 len0 E0) (slc off1 5 len1 E1) (slc_fact (sz := 5) hE0 rfl) (slc_fact (sz := 5) hE1 rfl)) hne (VRs.cons (.sl 0 b0 _ _ _ rfl) (VRs.cons (.sl 1 b1 _ _ _ rfl) VRs.nil)) W hb0 hb1 (slc_cell hE0 (by decide) hg0) (slc_cell hE1 (by decide) hg1)).mono fun e W' ⟨he, hbelow⟩ => ?_
        subst he
        exact ⟨_, rfl, post_law (by kernel_rfl) hW' rfl (by kernel_rfl) Try.underlying4 rfl rfl hbelow⟩

theorem over : Rows.riotCopiesRow.holds Try.pinned (OpenSpec.ofChange Rows.riotCopiesSpec) :=
  OpenClaim.holds_of_wide 13 Try.f13 rfl rfl rfl rfl rfl rfl rfl ⟨rfl, rfl, rfl, rfl, rfl⟩ rfl rfl rfl rfl rfl (by kernel_rfl) Try.func13 (by kernel_rfl)
    (of_decide_eq_true (by kernel_rfl)) (by unfold Func.isWrapper; first | (rw [if_pos (by decide +kernel)]; kernel_rfl) | (rw [if_neg (by decide +kernel)]; exact ⟨rfl, rfl⟩))
    (fun os started H enc _ => lifted os started H enc)

/-- The statement. -/
theorem proved : Rows.RiotCopiesSaid :=
  over
#print axioms proved
end Go.Proofs.Ytbngapokpmifnaa.riotCopies
