/-
  Walks through the functions of the program, by contract.
-/
import Derived.Test.YtimihamgemboeaaMrefF
set_option linter.all false
set_option linter.unusedVariables false
set_option linter.unusedSimpArgs false
set_option linter.unnecessarySimpa false
namespace Go.Proofs
open Go.Aw
set_option maxRecDepth 100000
set_option maxHeartbeats 4000000

theorem outs_full {a : Int} (h : 1 ≤ a ∧ a ≤ 12) : ∀ k : Nat, k ≤ 15 → outs a k = k
  | 0, _ => rfl
  | k + 1, hk => by
    have ih := outs_full h k (by omega)
    have hd : dk a ((a + 6) / 4 * 4 + 4 * (k : Int)) = true := by
      unfold dk
      simp only [Bool.or_eq_true, Bool.and_eq_true, decide_eq_true_eq]
      right; omega
    show outs a k + _ = _
    rw [hd, ih, if_pos rfl]; rfl
theorem table_in (a n : Int) (h : 1 ≤ a ∧ a ≤ 12) : shiftP a (stopI n) = if n % 16 > 7 then n % 16 - 16 else n % 16 := by
  have hb := stop_bd n
  have he := stopI_eq n
  unfold shiftP
  rw [if_neg (by omega), if_pos (by omega), if_pos (by omega), outs_full h _ (by omega)]
  split <;> omega
theorem table_bd (a n : Int) : -8 ≤ shiftP a (stopI n) ∧ shiftP a (stopI n) ≤ 15 := by
  have hb := stop_bd n
  have ho := outs_bd a (stopI n).toNat
  unfold shiftP
  split
  · omega
  · split <;> (try split) <;> omega

theorem walk_MotionTable (a n : Int) (wa : (Lit.int .u8 a).wf = true) (wn : (Lit.int .u8 n).wf = true) : ACalls Try.prog 5 [.int .u8 a, .int .u8 n] [] fun v _ => v = .bool true := by
  have ha := wf_u8 wa
  have hn := wf_u8 wn
  have ea : IntKind.i64.wrap a = a := wrap64 (by omega) (by omega)
  have en : IntKind.i64.wrap (bits .and .u8 n 15) = n % 16 := by rw [and15u, wrap64 (by omega) (by omega)]
  have e16 : IntKind.i64.wrap (n % 16 - 16) = n % 16 - 16 := wrap64 (by omega) (by omega)
  have hbd := table_bd a n
  have htab := table_in a n
  by_cases c1 : n % 16 > 7
  · by_cases c2 : 1 ≤ a ∧ a ≤ 12
    · have ht : shiftP a (stopI n) = n % 16 - 16 := by rw [htab c2, if_pos c1]
      refine ACalls.code tabOk h5 Try.func5 Try.call5 ok5 ?_
      conv => whnf
      refine ACalls.useE (motion_shift _ _) [] rfl (by (conv => whnf); try rfl) (by (conv => whnf); try rfl) ?_
      conv => whnf
      rw [ea]
      conv => whnf
      rw [en]
      conv => whnf
      refine Bif.knT ?_ fun h0 => ?_
      · (simp; omega)
      rw [h0]
      conv => whnf
      rw [e16]
      conv => whnf
      refine Bif.knT ?_ fun h1 => ?_
      · (simp; omega)
      rw [h1]
      conv => whnf
      refine Bif.knT ?_ fun h2 => ?_
      · (simp; omega)
      rw [h2]
      conv => whnf
      refine Bif.knF ?_ fun h3 => ?_
      · (simp; omega)
      rw [h3]
      conv => whnf
      refine Bif.knT ?_ fun h4 => ?_
      · (simp; omega)
      rw [h4]
      conv => whnf
      refine Bif.knT ?_ fun h5 => ?_
      · (simp; omega)
      rw [h5]
      conv => whnf
      refine ACalls.useE (awake17) [] rfl (by (conv => whnf); try rfl) (by (conv => whnf); try rfl) ?_
      conv => whnf
    · refine ACalls.code tabOk h5 Try.func5 Try.call5 ok5 ?_
      conv => whnf
      refine ACalls.useE (motion_shift _ _) [] rfl (by (conv => whnf); try rfl) (by (conv => whnf); try rfl) ?_
      conv => whnf
      rw [ea]
      conv => whnf
      rw [en]
      conv => whnf
      refine Bif.knT ?_ fun h0 => ?_
      · (simp; omega)
      rw [h0]
      conv => whnf
      rw [e16]
      conv => whnf
      refine Bif.of (fun h1 => ?_) fun h1 => ?_
      · rw [h1]
        conv => whnf
        refine Bif.knF ?_ fun h2 => ?_
        · (simp at h1; simp; omega)
        rw [h2]
        conv => whnf
        refine Bif.knT ?_ fun h3 => ?_
        · (simp; omega)
        rw [h3]
        conv => whnf
        refine Bif.knT ?_ fun h4 => ?_
        · (simp; omega)
        rw [h4]
        conv => whnf
        refine ACalls.useE (awake17) [] rfl (by (conv => whnf); try rfl) (by (conv => whnf); try rfl) ?_
        conv => whnf
      · rw [h1]
        conv => whnf
        refine Bif.knT ?_ fun h5 => ?_
        · (simp; omega)
        rw [h5]
        conv => whnf
        refine Bif.knT ?_ fun h6 => ?_
        · (simp; omega)
        rw [h6]
        conv => whnf
        refine ACalls.useE (awake17) [] rfl (by (conv => whnf); try rfl) (by (conv => whnf); try rfl) ?_
        conv => whnf
  · by_cases c2 : 1 ≤ a ∧ a ≤ 12
    · have ht : shiftP a (stopI n) = n % 16 := by rw [htab c2, if_neg c1]
      refine ACalls.code tabOk h5 Try.func5 Try.call5 ok5 ?_
      conv => whnf
      refine ACalls.useE (motion_shift _ _) [] rfl (by (conv => whnf); try rfl) (by (conv => whnf); try rfl) ?_
      conv => whnf
      rw [ea]
      conv => whnf
      rw [en]
      conv => whnf
      refine Bif.knF ?_ fun h0 => ?_
      · (simp; omega)
      rw [h0]
      conv => whnf
      refine Bif.knT ?_ fun h1 => ?_
      · (simp; omega)
      rw [h1]
      conv => whnf
      refine Bif.knT ?_ fun h2 => ?_
      · (simp; omega)
      rw [h2]
      conv => whnf
      refine Bif.knF ?_ fun h3 => ?_
      · (simp; omega)
      rw [h3]
      conv => whnf
      refine Bif.knT ?_ fun h4 => ?_
      · (simp; omega)
      rw [h4]
      conv => whnf
      refine Bif.knT ?_ fun h5 => ?_
      · (simp; omega)
      rw [h5]
      conv => whnf
      refine ACalls.useE (awake17) [] rfl (by (conv => whnf); try rfl) (by (conv => whnf); try rfl) ?_
      conv => whnf
    · refine ACalls.code tabOk h5 Try.func5 Try.call5 ok5 ?_
      conv => whnf
      refine ACalls.useE (motion_shift _ _) [] rfl (by (conv => whnf); try rfl) (by (conv => whnf); try rfl) ?_
      conv => whnf
      rw [ea]
      conv => whnf
      rw [en]
      conv => whnf
      refine Bif.knF ?_ fun h0 => ?_
      · (simp; omega)
      rw [h0]
      conv => whnf
      refine Bif.of (fun h1 => ?_) fun h1 => ?_
      · rw [h1]
        conv => whnf
        refine Bif.knF ?_ fun h2 => ?_
        · (simp at h1; simp; omega)
        rw [h2]
        conv => whnf
        refine Bif.knT ?_ fun h3 => ?_
        · (simp; omega)
        rw [h3]
        conv => whnf
        refine Bif.knT ?_ fun h4 => ?_
        · (simp; omega)
        rw [h4]
        conv => whnf
        refine ACalls.useE (awake17) [] rfl (by (conv => whnf); try rfl) (by (conv => whnf); try rfl) ?_
        conv => whnf
      · rw [h1]
        conv => whnf
        refine Bif.knT ?_ fun h5 => ?_
        · (simp; omega)
        rw [h5]
        conv => whnf
        refine Bif.knT ?_ fun h6 => ?_
        · (simp; omega)
        rw [h6]
        conv => whnf
        refine ACalls.useE (awake17) [] rfl (by (conv => whnf); try rfl) (by (conv => whnf); try rfl) ?_
        conv => whnf
end Go.Proofs
