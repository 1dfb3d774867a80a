/-
  Walks through the functions of the program, by contract.
-/
import Derived.Test.YtmdiokmkokjpiaaGreatZgF
set_option linter.all false
set_option linter.unusedVariables false
set_option linter.unusedSimpArgs false
set_option linter.unnecessarySimpa false
namespace Go.Proofs
open Go.Aw
set_option maxRecDepth 100000
set_option maxHeartbeats 8000000
theorem okTwo : okO T hNo (bodyOf Tryz.f111) = true := by kernel_rfl
theorem th_ages (p ln sc : Nat) : ACalls Tryz.prog 114 [.pointer (some ⟨0, 0, none⟩)] (thH p ln sc) fun v H => v = .func (.func 115) #[] #[.pointer (some ⟨5, 0, none⟩)] ∧ H = thH p ln sc ++ [.cells [.pointer (some ⟨0, 0, none⟩)] 53] := by
  refine ACalls.codeN tabOk h114 Tryz.func114 Tryz.call114 ok114 [0, 1, 2, 3, 4, 5] ?_
  conv => whnf
  exact ⟨rfl, rfl⟩
/-- The younger and the elder age. -/
def two1 : List Int → Int
  | x :: _ => x
  | [] => 255
def two2 : List Int → Int
  | _ :: y :: _ => y
  | _ => 255
theorem th_two (p ln sc : Nat) (hln : ln < 256) : ACalls Tryz.prog 111 [.pointer (some ⟨0, 0, none⟩)] (thH p ln sc) fun v H => v = .agg #[.int .i64 (two1 (agesF ln sc 8 0)), .int .i64 (two2 (agesF ln sc 8 0))] ∧ H = thH p ln sc := by
  refine ACalls.codeR tabOk hNo Tryz.func111 Tryz.call111 rfl okTwo ?_
  conv => whnf
  refine ACalls.useE (th_ages p ln sc) [0, 1, 2, 3, 4] rfl (by (conv => whnf); try rfl) (by (conv => whnf); try rfl) ?_
  conv => whnf
  refine ages_range hln rfl rfl rfl rfl rfl ?_ ?_ ?_
  · intro s v
    rw [← AWpR_eq, ← AWpR_eq]
    rcases s with _ | a
    · conv => whnf
      refine ⟨rfl, ?_⟩
      conv => whnf
      exact ⟨List.replicate 18 (.chan none), .inl ⟨rfl, trivial, rfl, rfl, rfl, rfl, rfl, rfl, rfl, rfl, rfl, rfl, rfl, rfl, rfl, rfl, rfl, rfl, rfl, rfl, trivial⟩⟩
    · conv => whnf
      exact ⟨a, rfl, rfl, rfl⟩
  · intro x hx
    have h1 : two1 (agesF ln sc 8 0) = x := by rw [hx]; rfl
    have h2 : two2 (agesF ln sc 8 0) = 255 := by rw [hx]; rfl
    rw [h1, h2]
    conv => whnf
    exact ⟨rfl, rfl⟩
  · intro x y l hx
    have h1 : two1 (agesF ln sc 8 0) = x := by rw [hx]; rfl
    have h2 : two2 (agesF ln sc 8 0) = y := by rw [hx]; rfl
    rw [h1, h2]
    conv => whnf
    exact ⟨rfl, rfl⟩
/-- The dot of two ages. -/
@[irreducible] def dotF (a b lead : Int) : Int := if a ≥ lead then a - lead else if b ≥ lead then b - lead else -1
@[irreducible] def ag1 (ln sc : Nat) : Int := two1 (agesF ln sc 8 0)
@[irreducible] def ag2 (ln sc : Nat) : Int := two2 (agesF ln sc 8 0)
theorem agesF_le (ln : Nat) (sc : Nat) (hs : sc ≤ 255) : ∀ m k, k + m = 8 → ∀ x ∈ agesF ln sc m k, 0 ≤ x ∧ x ≤ 255
  | 0, _, _, x, h => by simp [agesF] at h; subst h; omega
  | m + 1, k, hk, x, h => by
    unfold agesF at h
    split at h
    · rcases List.mem_cons.1 h with h | h
      · subst h; omega
      · exact agesF_le ln sc hs m (k + 1) (by omega) x h
    · exact agesF_le ln sc hs m (k + 1) (by omega) x h
theorem ag_le (ln : Nat) {sc : Nat} (hs : sc ≤ 255) : (0 ≤ ag1 ln sc ∧ ag1 ln sc ≤ 255) ∧ (0 ≤ ag2 ln sc ∧ ag2 ln sc ≤ 255) := by
  have h := agesF_le ln sc hs 8 0 rfl
  unfold ag1 ag2
  cases hl : agesF ln sc 8 0 with
  | nil => exact (show ((0 : Int) ≤ 255 ∧ (255 : Int) ≤ 255) ∧ ((0 : Int) ≤ 255 ∧ (255 : Int) ≤ 255) from by decide)
  | cons x l =>
    rw [hl] at h
    refine ⟨h x (List.mem_cons_self ..), ?_⟩
    cases l with
    | nil => exact (show (0 : Int) ≤ 255 ∧ (255 : Int) ≤ 255 from by decide)
    | cons y l => exact h y (List.mem_cons_of_mem _ (List.mem_cons_self ..))
theorem th_twoI (p ln sc : Nat) (hln : ln < 256) : ACalls Tryz.prog 111 [.pointer (some ⟨0, 0, none⟩)] (thH p ln sc) fun v H => v = .agg #[.int .i64 (ag1 ln sc), .int .i64 (ag2 ln sc)] ∧ H = thH p ln sc := by
  unfold ag1 ag2; exact th_two p ln sc hln
theorem th_dot4 (p ln sc : Nat) (hln : ln < 256) (hsc : sc ≤ 255) : ACalls Tryz.prog 105 [.pointer (some ⟨0, 0, none⟩), .int .i64 4] (thH p ln sc) fun v H => v = .int .i64 (dotF (ag1 ln sc) (ag2 ln sc) 4) ∧ H = thH p ln sc := by
  have hl := ag_le ln hsc
  by_cases h1 : ag1 ln sc ≥ 4
  · have ed : dotF (ag1 ln sc) (ag2 ln sc) 4 = IntKind.i64.wrap (ag1 ln sc - 4) := by rw [wrap64 (by omega) (by omega)]; unfold dotF; rw [if_pos h1]
    rw [ed]
    refine ACalls.code tabOk h105 Tryz.func105 Tryz.call105 ok105 ?_
    conv => whnf
    refine ACalls.useE (th_twoI _ _ _ ?_) [0, 1, 2, 3, 4] rfl (by (conv => whnf); try rfl) (by (conv => whnf); try rfl) ?_
    · omega
    conv => whnf
    refine ALoop.run 3 ?_
    conv => whnf
    refine Bif.knT ?_ fun h0 => ?_
    · (simp [h1]; done)
    rw [h0]
    conv => whnf
    exact ⟨rfl, rfl⟩
  · by_cases h2 : ag2 ln sc ≥ 4
    · have ed : dotF (ag1 ln sc) (ag2 ln sc) 4 = IntKind.i64.wrap (ag2 ln sc - 4) := by rw [wrap64 (by omega) (by omega)]; unfold dotF; rw [if_neg h1, if_pos h2]
      rw [ed]
      refine ACalls.code tabOk h105 Tryz.func105 Tryz.call105 ok105 ?_
      conv => whnf
      refine ACalls.useE (th_twoI _ _ _ ?_) [0, 1, 2, 3, 4] rfl (by (conv => whnf); try rfl) (by (conv => whnf); try rfl) ?_
      · omega
      conv => whnf
      refine ALoop.run 3 ?_
      conv => whnf
      refine Bif.knF ?_ fun h0 => ?_
      · (simp [h1]; done)
      rw [h0]
      conv => whnf
      refine Bif.knT ?_ fun h1 => ?_
      · (simp; omega)
      rw [h1]
      conv => whnf
      exact ⟨rfl, rfl⟩
    · have ed : dotF (ag1 ln sc) (ag2 ln sc) 4 = -1 := by unfold dotF; rw [if_neg h1, if_neg h2]
      rw [ed]
      refine ACalls.code tabOk h105 Tryz.func105 Tryz.call105 ok105 ?_
      conv => whnf
      refine ACalls.useE (th_twoI _ _ _ ?_) [0, 1, 2, 3, 4] rfl (by (conv => whnf); try rfl) (by (conv => whnf); try rfl) ?_
      · omega
      conv => whnf
      refine ALoop.run 3 ?_
      conv => whnf
      refine Bif.knF ?_ fun h0 => ?_
      · (simp; omega)
      rw [h0]
      conv => whnf
      refine Bif.knF ?_ fun h1 => ?_
      · (simp; omega)
      rw [h1]
      conv => whnf
      exact ⟨rfl, rfl⟩
theorem th_dot5 (p ln sc : Nat) (hln : ln < 256) (hsc : sc ≤ 255) : ACalls Tryz.prog 105 [.pointer (some ⟨0, 0, none⟩), .int .i64 5] (thH p ln sc) fun v H => v = .int .i64 (dotF (ag1 ln sc) (ag2 ln sc) 5) ∧ H = thH p ln sc := by
  have hl := ag_le ln hsc
  by_cases h1 : ag1 ln sc ≥ 5
  · have ed : dotF (ag1 ln sc) (ag2 ln sc) 5 = IntKind.i64.wrap (ag1 ln sc - 5) := by rw [wrap64 (by omega) (by omega)]; unfold dotF; rw [if_pos h1]
    rw [ed]
    refine ACalls.code tabOk h105 Tryz.func105 Tryz.call105 ok105 ?_
    conv => whnf
    refine ACalls.useE (th_twoI _ _ _ ?_) [0, 1, 2, 3, 4] rfl (by (conv => whnf); try rfl) (by (conv => whnf); try rfl) ?_
    · omega
    conv => whnf
    refine ALoop.run 3 ?_
    conv => whnf
    refine Bif.knT ?_ fun h0 => ?_
    · (simp [h1]; done)
    rw [h0]
    conv => whnf
    exact ⟨rfl, rfl⟩
  · by_cases h2 : ag2 ln sc ≥ 5
    · have ed : dotF (ag1 ln sc) (ag2 ln sc) 5 = IntKind.i64.wrap (ag2 ln sc - 5) := by rw [wrap64 (by omega) (by omega)]; unfold dotF; rw [if_neg h1, if_pos h2]
      rw [ed]
      refine ACalls.code tabOk h105 Tryz.func105 Tryz.call105 ok105 ?_
      conv => whnf
      refine ACalls.useE (th_twoI _ _ _ ?_) [0, 1, 2, 3, 4] rfl (by (conv => whnf); try rfl) (by (conv => whnf); try rfl) ?_
      · omega
      conv => whnf
      refine ALoop.run 3 ?_
      conv => whnf
      refine Bif.knF ?_ fun h0 => ?_
      · (simp [h1]; done)
      rw [h0]
      conv => whnf
      refine Bif.knT ?_ fun h1 => ?_
      · (simp; omega)
      rw [h1]
      conv => whnf
      exact ⟨rfl, rfl⟩
    · have ed : dotF (ag1 ln sc) (ag2 ln sc) 5 = -1 := by unfold dotF; rw [if_neg h1, if_neg h2]
      rw [ed]
      refine ACalls.code tabOk h105 Tryz.func105 Tryz.call105 ok105 ?_
      conv => whnf
      refine ACalls.useE (th_twoI _ _ _ ?_) [0, 1, 2, 3, 4] rfl (by (conv => whnf); try rfl) (by (conv => whnf); try rfl) ?_
      · omega
      conv => whnf
      refine ALoop.run 3 ?_
      conv => whnf
      refine Bif.knF ?_ fun h0 => ?_
      · (simp; omega)
      rw [h0]
      conv => whnf
      refine Bif.knF ?_ fun h1 => ?_
      · (simp; omega)
      rw [h1]
      conv => whnf
      exact ⟨rfl, rfl⟩
theorem th_dot6 (p ln sc : Nat) (hln : ln < 256) (hsc : sc ≤ 255) : ACalls Tryz.prog 105 [.pointer (some ⟨0, 0, none⟩), .int .i64 6] (thH p ln sc) fun v H => v = .int .i64 (dotF (ag1 ln sc) (ag2 ln sc) 6) ∧ H = thH p ln sc := by
  have hl := ag_le ln hsc
  by_cases h1 : ag1 ln sc ≥ 6
  · have ed : dotF (ag1 ln sc) (ag2 ln sc) 6 = IntKind.i64.wrap (ag1 ln sc - 6) := by rw [wrap64 (by omega) (by omega)]; unfold dotF; rw [if_pos h1]
    rw [ed]
    refine ACalls.code tabOk h105 Tryz.func105 Tryz.call105 ok105 ?_
    conv => whnf
    refine ACalls.useE (th_twoI _ _ _ ?_) [0, 1, 2, 3, 4] rfl (by (conv => whnf); try rfl) (by (conv => whnf); try rfl) ?_
    · omega
    conv => whnf
    refine ALoop.run 3 ?_
    conv => whnf
    refine Bif.knT ?_ fun h0 => ?_
    · (simp [h1]; done)
    rw [h0]
    conv => whnf
    exact ⟨rfl, rfl⟩
  · by_cases h2 : ag2 ln sc ≥ 6
    · have ed : dotF (ag1 ln sc) (ag2 ln sc) 6 = IntKind.i64.wrap (ag2 ln sc - 6) := by rw [wrap64 (by omega) (by omega)]; unfold dotF; rw [if_neg h1, if_pos h2]
      rw [ed]
      refine ACalls.code tabOk h105 Tryz.func105 Tryz.call105 ok105 ?_
      conv => whnf
      refine ACalls.useE (th_twoI _ _ _ ?_) [0, 1, 2, 3, 4] rfl (by (conv => whnf); try rfl) (by (conv => whnf); try rfl) ?_
      · omega
      conv => whnf
      refine ALoop.run 3 ?_
      conv => whnf
      refine Bif.knF ?_ fun h0 => ?_
      · (simp [h1]; done)
      rw [h0]
      conv => whnf
      refine Bif.knT ?_ fun h1 => ?_
      · (simp; omega)
      rw [h1]
      conv => whnf
      exact ⟨rfl, rfl⟩
    · have ed : dotF (ag1 ln sc) (ag2 ln sc) 6 = -1 := by unfold dotF; rw [if_neg h1, if_neg h2]
      rw [ed]
      refine ACalls.code tabOk h105 Tryz.func105 Tryz.call105 ok105 ?_
      conv => whnf
      refine ACalls.useE (th_twoI _ _ _ ?_) [0, 1, 2, 3, 4] rfl (by (conv => whnf); try rfl) (by (conv => whnf); try rfl) ?_
      · omega
      conv => whnf
      refine ALoop.run 3 ?_
      conv => whnf
      refine Bif.knF ?_ fun h0 => ?_
      · (simp; omega)
      rw [h0]
      conv => whnf
      refine Bif.knF ?_ fun h1 => ?_
      · (simp; omega)
      rw [h1]
      conv => whnf
      exact ⟨rfl, rfl⟩
end Go.Proofs
