/-
  Walks through the functions of the program, by contract.
-/
import Derived.Test.YtbngapokpmifnaaRtaF
import Derived.Test.YtbngapokpmifnaaCore30
set_option linter.all false
set_option linter.unusedVariables false
set_option linter.unusedSimpArgs false
set_option linter.unnecessarySimpa false
namespace Go.Proofs
open Go.Aw
set_option maxRecDepth 100000
set_option maxHeartbeats 8000000
/-- What stands behind the RAM in the reference's riot. -/
def rfR (s : RS) (t : RT) : List Value := [.int .i64 s.i0, .int .i64 s.o0, .int .i64 s.w0, .int .i64 s.i1, .int .i64 s.o1, .int .i64 s.w1, .int .i64 t.base, .int .i64 t.iv, .int .i64 t.lead, .int .i64 t.gone, .bool false, .bool false, .bool s.el, .bool s.er, .bool s.ec]
def rt0 : RT := ⟨255, 1024, 1, 0⟩
theorem rf_new (L : List Value) (hL : Ram L) : ACalls Try.prog 53 [.agg L.toArray] [] fun v H => v = .agg (recC [] L (rfR (rs0 L) rt0)).toArray ∧ H = [] := by
  refine ACalls.code tabOk h53 Try.func53 Try.call53 ok53 ?_
  conv => whnf
  refine dropF_zero ?_
  conv => whnf
  refine takeF_ram hL rfl ?_
  conv => whnf
  refine ACalls.useE (rt_new) [] rfl (by (conv => whnf); try rfl) (by (conv => whnf); try rfl) ?_
  conv => whnf
  refine dropF_zero ?_
  conv => whnf
  refine takeF_ram hL rfl ?_
  conv => whnf
  refine ⟨rfl, ?_⟩
  conv => whnf
  refine Req.of ?_ ?_
  · (show Nat.beq L.length 128 = true; rw [hL.len]; rfl)
  conv => whnf
  refine putF_intoR (A' := []) (R' := [.int .i64 0, .int .i64 0, .int .i64 0, .int .i64 0, .int .i64 0, .int .i64 0, .int .i64 0, .int .i64 0, .int .i64 0, .int .i64 0, .bool false, .bool false, .bool false, .bool false, .bool false]) rfl hL.len rfl rfl (by decide) ?_
  conv => whnf
  refine putF_sufR hL.len 0 rfl ?_
  conv => whnf
  refine putF_sufR hL.len 3 rfl ?_
  conv => whnf
  refine putF_sufR hL.len 6 rfl ?_
  conv => whnf
  refine putF_sufR hL.len 12 rfl ?_
  conv => whnf
  refine Req.of ?_ ?_
  · exact rec_fits hL.len rfl rfl (hL.all fun _ => rfl) rfl
  conv => whnf
  refine putF_wholeRL hL.len rfl ?_
  conv => whnf
  refine dropF_zero ?_
  conv => whnf
  refine takeF_rec hL.len rfl ?_
  conv => whnf
  refine Req.of ?_ ?_
  · exact recC_all rfl (hL.all fun _ => rfl) rfl
  conv => whnf
  exact ⟨rfl, rfl⟩
theorem rf_level (i o w : Int) (hb : (0 ≤ i ∧ i ≤ 255) ∧ (0 ≤ o ∧ o ≤ 255) ∧ (0 ≤ w ∧ w ≤ 255)) : ACalls Try.prog 80 [.agg #[.int .i64 i, .int .i64 o, .int .i64 w]] [] fun v H => v = .int .i64 (lv i o w) ∧ H = [] := by
  refine ACalls.code tabOk h80 Try.func80 Try.call80 ok80 ?_
  conv => whnf
  refine ACalls.useE (ref_level _ _ _ ?_ ?_ ?_) [] rfl (by (conv => whnf); try rfl) (by (conv => whnf); try rfl) ?_
  · omega
  · omega
  · omega
  conv => whnf
  exact ⟨rfl, rfl⟩
theorem lv7_eq {i o w : Int} (h : 0 ≤ lv i o w ∧ lv i o w ≤ 255) : decide (lv i o w ≥ 128) = lv7 i o w := by
  unfold lv7
  unfold lv at h ⊢
  generalize lvN i o w 8 = n at h
  obtain ⟨m, rfl⟩ : ∃ m : Nat, n = m := ⟨n.toNat, by omega⟩
  have hm : m < 256 := by omega
  have key : ∀ m : Fin 256, decide (((m.val : Nat) : Int) ≥ 128) = (bits .and .u8 (m.val : Nat) 128 != 0) := by decide +kernel
  exact key ⟨m, hm⟩
theorem lvN_le (i o w : Int) (hb : (0 ≤ i ∧ i ≤ 255) ∧ (0 ≤ o ∧ o ≤ 255) ∧ (0 ≤ w ∧ w ≤ 255)) : 0 ≤ lv i o w ∧ lv i o w ≤ 255 := by
  have h := lvN_bd i o w 8
  unfold lv
  have e : (2 : Int) ^ 8 = 256 := by decide
  rw [e] at h
  omega
theorem rf_tick (s : RS) (hs : s.Ok) (t : RT) (ht : t.Ok) : ACalls Try.prog 71 [.agg (recC [] s.L (rfR s t)).toArray] [] fun v H => v = .agg (recC [] s.L (rfR (rsTick s) { t with gone := t.gone + 1 })).toArray ∧ H = [] := by
  have e7 := lv7_eq (lvN_le s.i0 s.o0 s.w0 hs.p0)
  have hsL := hs.L
  unfold rsTick
  refine ACalls.code tabOk h71 Try.func71 Try.call71 ok71 ?_
  conv => whnf
  refine dropF_suf hsL.len 6 rfl ?_
  conv => whnf
  refine ACalls.useE (rt_tick t ht) [] rfl (by (conv => whnf); try rfl) (by (conv => whnf); try rfl) ?_
  conv => whnf
  refine putF_sufR hsL.len 6 rfl ?_
  conv => whnf
  refine dropF_suf hsL.len 12 rfl ?_
  conv => whnf
  refine dropF_suf hsL.len 0 rfl ?_
  conv => whnf
  refine ACalls.useE (rf_level _ _ _ ?_) [] rfl (by (conv => whnf); try rfl) (by (conv => whnf); try rfl) ?_
  · exact hs.p0
  conv => whnf
  refine dropF_suf hsL.len 12 rfl ?_
  conv => whnf
  refine ⟨rfl, ?_⟩
  conv => whnf
  refine ACalls.useE (ref_see _ _ _ _) [] rfl (by (conv => whnf); try rfl) (by (conv => whnf); try rfl) ?_
  conv => whnf
  refine putF_sufR hsL.len 12 rfl ?_
  conv => whnf
  refine dropF_zero ?_
  conv => whnf
  refine takeF_rec hsL.len rfl ?_
  conv => whnf
  rw [e7]
  conv => whnf
  refine Req.of ?_ ?_
  · exact rec_fits hsL.len rfl rfl (hsL.all fun _ => rfl) rfl
  conv => whnf
  refine putF_wholeRL hsL.len rfl ?_
  conv => whnf
  refine dropF_zero ?_
  conv => whnf
  refine takeF_rec hsL.len rfl ?_
  conv => whnf
  refine Req.of ?_ ?_
  · exact recC_all rfl (hsL.all fun _ => rfl) rfl
  conv => whnf
  exact ⟨rfl, rfl⟩
end Go.Proofs
