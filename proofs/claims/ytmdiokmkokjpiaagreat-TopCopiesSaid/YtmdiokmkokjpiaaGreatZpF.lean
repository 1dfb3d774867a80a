/-
  Walks through the functions of the program, by contract.
-/
import Derived.Test.YtmdiokmkokjpiaaGreatZoF
set_option linter.all false
set_option linter.unusedVariables false
set_option linter.unusedSimpArgs false
set_option linter.unnecessarySimpa false
namespace Go.Proofs
open Go.Aw
set_option maxRecDepth 100000
set_option maxHeartbeats 8000000
theorem tell7_bd (m : Int) : 0 ≤ tellI m 7 ∧ tellI m 7 ≤ 255 := by
  have h1 := tb_01 m 13
  have h2 := tb_01 m 14
  unfold tellI
  rw [if_neg (by decide), if_neg (by decide), if_pos rfl]
  omega
theorem tread7 (s : TS) (hs : s.Top) : ACalls Tryz.prog 14 [.pointer (some ⟨0, 0, none⟩), .int .u16 7, .int .u8 0] (tsH s) fun v H => v = .int .u8 (tellI s.met 7) ∧ H = tsH s := by
  have hL := hs.L
  have e : bits .or .u8 (tellI s.met 7) (bits .and .u8 0 63) = tellI s.met 7 := by
    have hb := tell7_bd s.met
    obtain ⟨a, ha⟩ : ∃ a : Nat, tellI s.met 7 = a := ⟨(tellI s.met 7).toNat, by omega⟩
    rw [show bits .and .u8 0 63 = ((0 : Nat) : Int) from by decide, ha, or_nat .u8 rfl a 0 (by show a < 256; omega) (by decide), Nat.or_zero]
  refine ACalls.code tabOk h14 Tryz.func14 Tryz.call14 ok14 ?_
  conv => whnf
  refine getF_suf hL.len 6 rfl ?_
  conv => whnf
  refine ACalls.useE (field_tell_7 _) [] rfl (by (conv => whnf); first | done | rfl | (refine renL_rec hL.flat ?_; (conv => whnf); first | done | rfl)) (by (conv => whnf); try rfl) ?_
  conv => whnf
  rw [e]
  conv => whnf
  refine Req.of ?_ ?_
  · exact recC_all rfl (hL.all fun _ => rfl) rfl
  conv => whnf
  exact ⟨rfl, rfl⟩
def zeros : List Value := List.replicate 64 (.int .u8 0)
theorem rg_zeros (j : Nat) : rg zeros j = 0 := by
  unfold rg zeros
  rw [List.getElem?_replicate]
  split <;> simp_all
theorem ts0_top {c : Nat} (hc : c < 228) : (ts0 c zeros).Top := ⟨ts0_ok hc Rg.zero, rfl, rfl, rfl, rfl, fun j _ => rg_zeros j⟩
theorem TS.Top.reg {s : TS} (h : s.Top) (j : Nat) {x : Int} (hx : 0 ≤ x ∧ x ≤ 255) (hj : j = 4 ∨ j = 6 ∨ j = 7 ∨ j = 8 ∨ j = 9 ∨ j = 10 ∨ j = 13 ∨ j = 14 ∨ j = 15) : TS.Top { s with L := wrg s.L j x } := ⟨⟨h.c, h.mc, h.mg, h.t0, h.t1, h.t2, h.t3, h.t4, h.q, h.L.wr j hx, h.g00, h.g01, h.g10, h.g11, h.met⟩, h.late, h.m, h.b0, h.b1, fun i hi => by rw [show rg (TS.L { s with L := wrg s.L j x }) i = rg (wrg s.L j x) i from rfl, rg_wr h.L (by omega), if_neg (by omega)]; exact h.z i hi⟩
@[irreducible] def dr0 : TS := ts0 67 zeros
@[irreducible] def dr1 : TS := { dr0 with L := wrg dr0.L 9 30 }
theorem dr0_top : dr0.Top := by unfold dr0; exact ts0_top (by decide)
theorem dr1_top : dr1.Top := by unfold dr1; exact dr0_top.reg 9 (by decide) (by omega)
theorem new67 : ACalls Tryz.prog 7 [.int .i64 67] [] fun v H => v = .pointer (some ⟨0, 0, none⟩) ∧ H = tsH dr0 := by unfold dr0; exact tia_new0 67 (by decide)
theorem sto67 : ACalls Tryz.prog 8 [.pointer (some ⟨0, 0, none⟩), .int .u16 9, .int .u8 30] (tsH dr0) fun r H => r = .tuple #[] ∧ H = tsH dr1 := by unfold dr1; exact sto_9 dr0 dr0_top 30 (by decide)
end Go.Proofs
