/-
  What is proved here: 'TopMemory' of woodgraintop holds for every input (a code that turns a byte writes it twice, one that stores once, one that reads never), the two tables of Go's library that strings.Fields reads standing as their initialisers lay them.
-/
import Derived.Test.YtmdiokmkokjpiaaDoorCards
import Derived.Test.YtmdiokmkokjpiaaDoorTie
import Derived.WalkKit
import Derived.ProofKit
import Derived.OpenShut
import Derived.LaidMore
import Derived.Stop.LaidErr
import Derived.Lib.LaidTab
import Derived.Deep.DeepHandedRow
import Derived.SevenTiedAt
import Derived.Shelf.Vars
import Derived.Test.YtmdiokmkokjpiaaDoorQnF
set_option linter.all false
set_option linter.unusedVariables false
set_option linter.unusedSimpArgs false
set_option linter.unnecessarySimpa false
namespace Go.Proofs.YtmdiokmkokjpiaaDoor.topMemory
open Go.ChangeShapes Go.WideShapes Go.ChangeAt Go.RowKit Go.Aw Go.Proofs
set_option linter.unusedVariables false
set_option maxRecDepth 100000

theorem own : ownKnob Tryd.prog.godebug = none := by kernel_rfl
theorem gTab : Tryd.prog.globalNamed "strings.asciiSpace" = some 0 := by kernel_rfl
theorem tTab : (Tryd.prog.globals[0]?).map (·.type) = some 95 := by kernel_rfl
theorem c5 : Tryd.prog.cellsOf 5 = 1 := by kernel_rfl
theorem c95 : Tryd.prog.cellsOf 95 = 256 := by kernel_rfl
theorem tabD : (Rows.laid_strings_asciiSpace : DataW Unit) = Lib.tabData .u8 Lib.asciiSpaceTab := by kernel_rfl
theorem tab_of {W : World} (h : laidMetH Tryd.prog [("unicode.White_Space", Rows.laid_unicode_White_Space), ("strings.asciiSpace", Rows.laid_strings_asciiSpace)] W) : Lib.TabIs Tryd.prog W "strings.asciiSpace" .u8 Lib.asciiSpaceTab := by
  rw [MakeChecks.laidMetH_plain _ _ _ (by kernel_rfl)] at h
  have h2 := laidMet.tail h
  rw [tabD] at h2
  exact Lib.tabIs_of_head gTab tTab Tryd.underlying95 Tryd.underlying5 c5 c95 h2
theorem max_of {W : World} (h : W.ShapedOpen Tryd.prog) : ∃ m, W.cell? ⟨1, 0, none⟩ = some (.int .i64 m) :=
  cell_of_shapedOpen_int (t := 3) (zero := #[.int .i64 0]) h (of_decide_eq_true (by kernel_rfl)) (by kernel_rfl) rfl (by kernel_rfl) (by kernel_rfl) Tryd.underlying3
theorem door_met (os : Os) (args : Array Value) : laidMetH Tryd.prog [("unicode.White_Space", Rows.laid_unicode_White_Space), ("strings.asciiSpace", Rows.laid_strings_asciiSpace)] ((World.doorLaid Tryd.prog 33 os).forCall (fun _ _ => 0) ⟨#[], args, []⟩).memory :=
  laidMetH_of_parts3 (fuel := 8) (laidMet_of_run' 8 (by kernel_rfl) (by kernel_rfl)) (by kernel_rfl) (by kernel_rfl)

theorem lifted (os : Os) (started : os.Started) (H : Type) (enc : TypeId × Value → H) (F : Stop.Interp) :
    ReturnsInHanded {} Tryd.checked os 3 .any ((OpenSpec.ofChange Rows.topMemorySpec).preRow enc Tryd.prog Tryd.f3 Rows.topMemoryRow.domain false Rows.topMemoryRow.laid) (((OpenSpec.ofChange Rows.topMemorySpec).at F).post enc Tryd.prog Tryd.f3 false true false false) := by
  refine returnsInHanded_of_row (C := Tryd.checked) (s := OpenSpec.ofChange Rows.topMemorySpec) own started (by kernel_rfl) Tryd.func3
    (ChangeSpec.witness_shaped (enc := enc) (C := Tryd.checked) (os := os) (s := Rows.topMemorySpec) (X := fun w _ => laidMetH Tryd.prog Rows.topMemoryRow.laid w) false (World.doorLaid Tryd.prog 33 os) #[.agg #[.int .u8 0, .int .u8 0, .int .u16 0, .int .u8 0, .int .u8 0, .int .u8 0, .int .u8 0, .int .u8 0, .int .u16 0]] 8 rfl (World.shaped_of_RefB (by kernel_rfl) (by kernel_rfl)) (by kernel_rfl) (by kernel_rfl) (by kernel_rfl) (door_met os _)) ?_
  intro W base args ds gs before hval0 hW hcnd _ _ hL hsh _
  have hval : ∀ (j : Nat) t v, Tryd.f3.params[j]? = some t → args[j]? = some v → Value.okWide Tryd.prog W .any base t v := hval0
  have hW' := hW
  obtain ⟨p, q, hA0, hV, rfl, hfz, hnd⟩ := hW
  have hA : DataW.TrodAll enc Tryd.prog W 0 (fun _ => true) true Tryd.f3.params.toList args.toList ds p := hA0
  rw [Tryd.params3] at hA hval
  obtain ⟨v0, vs0, d0, ds0, p0, q0, hargs, rfl, rfl, h0, r0⟩ := trodAll_cons hA
  obtain ⟨rfl, rfl, rfl⟩ := trodAll_nil r0
  obtain rfl : args = #[v0] := by cases args; simp_all
  obtain ⟨rfl, rfl⟩ := trodVars_none hV
  letI : Base := ⟨W⟩
  letI : Door := ⟨tab_of hL, max_of hsh⟩
  obtain ⟨c0, rfl, f0⟩ := open_flat tabOk (T := T) rfl rfl (ks := [.int .u8, .int .u8, .int .u16, .int .u8, .int .u8, .int .u8, .int .u8, .int .u8, .int .u16]) rfl (hval 0 26 v0 rfl rfl) h0
  obtain ⟨a0x0, c0x0, rfl, w0x0, f0x0⟩ := fits_int f0
  obtain ⟨a0x1, c0x1, rfl, w0x1, f0x1⟩ := fits_int f0x0
  obtain ⟨a0x2, c0x2, rfl, w0x2, f0x2⟩ := fits_int f0x1
  obtain ⟨a0x3, c0x3, rfl, w0x3, f0x3⟩ := fits_int f0x2
  obtain ⟨a0x4, c0x4, rfl, w0x4, f0x4⟩ := fits_int f0x3
  obtain ⟨a0x5, c0x5, rfl, w0x5, f0x5⟩ := fits_int f0x4
  obtain ⟨a0x6, c0x6, rfl, w0x6, f0x6⟩ := fits_int f0x5
  obtain ⟨a0x7, c0x7, rfl, w0x7, f0x7⟩ := fits_int f0x6
  obtain ⟨a0x8, c0x8, rfl, w0x8, f0x8⟩ := fits_int f0x7
  obtain rfl := fits_nil f0x8
  clear hA0 hval0
  refine (walk_of (f := 3) (args := [inV a0x0 a0x1 a0x2 a0x3 a0x4 a0x5 a0x6 a0x7 a0x8]) (walk_memory a0x0 a0x1 a0x2 a0x3 a0x4 a0x5 a0x6 a0x7 a0x8 (wf_u8 w0x0) (wf_u16 w0x2) (wf_u8 w0x7)) (okvs_sound (n := 6) rfl []) W ⟨by simp, Nat.le_refl _, fun _ _ => rfl⟩).mono fun e W' ⟨he, hbelow⟩ => ?_
  subst he
  exact ⟨_, rfl, post_law (by kernel_rfl) hW' rfl (by kernel_rfl) Tryd.underlying4 rfl rfl hbelow⟩

theorem over : Rows.TopMemorySaid :=
  OpenClaim.holds_of_cond 3 Tryd.f3 rfl rfl rfl rfl rfl rfl rfl ⟨rfl, rfl, rfl, rfl, rfl⟩ rfl rfl rfl rfl rfl (by kernel_rfl) Tryd.func3 (by kernel_rfl)
    (of_decide_eq_true (by kernel_rfl)) (by unfold Func.isWrapper; first | (rw [if_pos (by decide +kernel)]; kernel_rfl) | (rw [if_neg (by decide +kernel)]; exact ⟨rfl, rfl⟩))
    (fun os started H enc _ F0 => by rw [OpenClaim.pre_eq_preRow]; exact lifted os started H enc F0)

/-- The statement. -/
theorem proved : Rows.TopMemoryCardSaid :=
  Claim7.holds_tied_plain_at .later [] [.listed, .data] true (true, "1ae687223d046aac21f078058230e4fc2beb799fa21f47633c219b01107ab1f2") false
    over (fun _ h => by cases h) (by kernel_rfl) (fun _ h => by cases h) topMemory_row_tie rfl ⟨rfl, rfl⟩ (by kernel_rfl) rfl
    (fun f fn hf hfn => by
      obtain rfl : f = 3 := Option.some.inj ((show Tryd.prog.funcNamed "woodgrain/woodgraintop.TopMemory" = some 3 by kernel_rfl).symm.trans hf) |>.symm
      obtain rfl : fn = Tryd.f3 := (Option.some.inj (Tryd.func3.symm.trans hfn)).symm
      exact ⟨by kernel_rfl, fun j t ht => by
        rw [Tryd.params3] at ht
        have hm : t ∈ [26] := by simpa using Array.mem_of_getElem? ht
        have hall : ([26].all fun u => !Tryd.prog.wantsStandIn u) = true := by kernel_rfl
        exact (show Tryd.prog.wantsStandIn t = false by simpa using List.all_eq_true.1 hall t hm)⟩)
    (by kernel_rfl)
#print axioms proved
end Go.Proofs.YtmdiokmkokjpiaaDoor.topMemory
