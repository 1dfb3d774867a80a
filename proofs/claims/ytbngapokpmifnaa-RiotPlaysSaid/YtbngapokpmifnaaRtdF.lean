/-
  Walks through the functions of the program, by contract.
-/
import Derived.Test.YtbngapokpmifnaaRtcF
set_option linter.all false
set_option linter.unusedVariables false
set_option linter.unusedSimpArgs false
set_option linter.unnecessarySimpa false
namespace Go.Proofs
open Go.Aw
set_option maxRecDepth 100000
set_option maxHeartbeats 8000000
theorem rt_wordsS (s : RS) (t : RT) (h : t.Ok) (hr : t.tm = s.tm) : ACalls Try.prog 74 [.agg t.l.toArray] [] fun v H => v = .agg #[.int .i64 s.tm.v, .int .i64 s.tm.iv, .int .i64 s.tm.l, .int .i64 (one01 s.tm.fa), .int .i64 (one01 s.tm.fl)] ∧ H = [] := by
  rw [← hr]; exact rt_words t h
theorem flat_vr {μ : List Nat} {v : Value} (h : flatV v = true) : VR μ v v := by cases v <;> first | exact .bool _ | exact .int _ _ | exact .str _ | simp [flatV] at h
theorem BW.recC {L R : List Value} (h : Ram L) (hR : R.all flatV = true) {ord : List Nat} {t : TypeId} : BW ord (.cells (recC [] L R) t) (.cells (recC [] L R) t) := by
  refine .cells _ _ _ ⟨rfl, fun i x y hx hy => ?_⟩
  rw [hx] at hy; cases hy
  have hm := List.mem_of_getElem? hx
  unfold Go.Aw.recC at hm
  simp only [List.nil_append, List.mem_append] at hm
  exact flat_vr (hm.elim (h.flat x) fun hm => List.all_eq_true.1 hR x hm)
theorem wk_row {f : Nat → Int} {H' : List Blk} {b nc : Nat} (hb : H'[b]? = some (.cells (rowI .i64 f 142 nc) 3)) (hn : 142 ≤ nc) :
    Wk [] (fun v H => ∃ nc : Nat, 142 ≤ nc ∧ v = .slice (some ⟨0, 0, none⟩) 142 nc ∧ H = [.cells (rowI .i64 f 142 nc) 3]) (.slice (some ⟨b, 0, none⟩) 142 nc) H' :=
  ⟨.slice (some ⟨0, 0, none⟩) 142 nc, [.cells (rowI .i64 f 142 nc) 3], weak_of [b] rfl rfl ⟨rfl, fun i x y hx hy => by
    cases i with
    | zero => simp at hx hy; subst hx; subst hy; exact .inr (.sl _ _ _ _ _ rfl)
    | succ i => simp at hx⟩ ⟨⟨_, hb, BW.row rfl⟩, trivial⟩, (by intro h; cases h), nc, hn, rfl, rfl⟩
def frX : Nat × Nat → List Value
  | (0, _) => [.chan none, .pointer (some ⟨0, 0, none⟩), .slice none 0 0, .slice none 0 0, .int .i64 0, .chan none, .chan none, .chan none, .chan none, .chan none, .chan none, .chan none, .chan none, .chan none, .chan none, .chan none, .chan none, .chan none, .chan none, .chan none, .chan none, .chan none, .chan none, .chan none, .chan none, .chan none, .chan none, .chan none, .chan none, .chan none, .chan none, .chan none, .chan none, .chan none, .chan none, .chan none, .chan none, .chan none, .chan none]
  | (i + 1, nc) => [.chan none, .pointer (some ⟨0, 0, none⟩), .slice none 0 0, .slice (some ⟨1, 0, none⟩) (i + 1) nc, .int .i64 (i + 1 : Nat), .chan none, .chan none, .chan none, .chan none, .chan none, .chan none, .chan none, .chan none, .chan none, .chan none, .chan none, .chan none, .chan none, .chan none, .chan none, .chan none, .chan none, .chan none, .chan none, .chan none, .chan none, .chan none, .chan none, .chan none, .chan none, .chan none, .chan none, .chan none, .chan none, .chan none, .chan none, .chan none, .chan none, .chan none]
def hpX (s : RS) (t : RT) : Nat × Nat → List Blk
  | (0, _) => [.cells (recC [] s.L (rfR s t)) 82]
  | (i + 1, nc) => [.cells (recC [] s.L (rfR s t)) 82, .cells (rowI .i64 (wdS s) (i + 1) nc) 3]
theorem rf_words (s : RS) (hs : s.Ok) (t : RT) (ht : t.Ok) (hr : t.tm = s.tm) : ACalls Try.prog 56 [.agg (recC [] s.L (rfR s t)).toArray] [] fun v H => ∃ nc : Nat, 142 ≤ nc ∧ v = .slice (some ⟨0, 0, none⟩) 142 nc ∧ H = [.cells (rowI .i64 (wdS s) 142 nc) 3] := by
  have hsL := hs.L
  refine ACalls.codeW tabOk h56 Try.func56 Try.call56 ok56 ?_
  conv => whnf
  refine ALoop.fdw (σ := Nat × Nat) frX (hpX s t) (fun t => t.1 ≤ 128 ∧ t.1 ≤ t.2) (fun t => 128 - t.1) (0, 0) (fade_ren [0] rfl (by (conv => whnf); rfl) ⟨⟨_, rfl, BW.recC hsL rfl⟩, trivial⟩) ⟨Nat.zero_le _, Nat.le_refl _⟩ ?_
  rintro ⟨i, nc⟩ ⟨hi, hnc⟩ R hR
  dsimp only at hi hnc
  cases i with
  | zero =>
    have hx : IntKind.i64.wrap (rd s.L 0) = wdS s 0 := by have := hs.L.rd_le (j := 0) (by decide); rw [wdS_lo s (by decide), wrap64 (by omega) (by omega)]
    have e1 : IntKind.i64.wrap (0 + 1) = ((0 + 1 : Nat) : Int) := by decide
    conv => whnf
    refine getF_ramR hsL 0 (by first | rfl | omega) (by decide) ?_
    conv => whnf
    rw [hx]
    conv => whnf
    intro nc2 hc1 hc2
    conv => whnf
    (rw [e1]; exact hR (1, nc2) _ _ ⟨by omega, by omega⟩ (by dsimp only; omega) (fade_ren [0, 2] rfl (by (conv => whnf); rfl) ⟨⟨_, rfl, BW.recC hsL rfl⟩, ⟨_, rfl, BW.row (row_start (by omega) rfl)⟩, trivial⟩))
  | succ i =>
    have e1 : IntKind.i64.wrap (((i + 1 : Nat) : Int) + 1) = ((i + 2 : Nat) : Int) := by rw [wrap64 (by omega) (by omega)]; omega
    by_cases hlt : i + 1 < 128
    · have hx : IntKind.i64.wrap (rd s.L (i + 1)) = wdS s (i + 1) := by have := hs.L.rd_le hlt; rw [wdS_lo s hlt, wrap64 (by omega) (by omega)]
      conv => whnf
      refine Bif.knT ?_ fun h0 => ?_
      · (clear hR; simp; omega)
      rw [h0]
      conv => whnf
      refine Req.of ?_ ?_
      · (clear hR; simp; omega)
      conv => whnf
      refine getF_ramR hsL (i + 1) (by first | omega | (dsimp only; omega)) hlt ?_
      conv => whnf
      rw [hx]
      conv => whnf
      refine Bif.of (fun h1 => ?_) fun h1 => ?_
      · conv => whnf
        refine putF_row (f := wdS s) (by simp at *; omega) (by first | omega | (dsimp only; omega)) (by first | rfl | exact hx) ?_
        conv => whnf
        (rw [e1]; exact hR (i + 2, nc) _ _ ⟨by dsimp only; omega, by simp at *; omega⟩ (by dsimp only; omega) (fade_ren [0, 1] rfl (by (conv => whnf); rfl) ⟨⟨_, rfl, BW.recC hsL rfl⟩, ⟨_, rfl, BW.row rfl⟩, trivial⟩))
      · conv => whnf
        refine Req.of ?_ ?_
        · (simp only [decide_true, Bool.true_and, Bool.and_true, Bool.and_eq_true, decide_eq_true_eq]; exact ⟨⟨by omega, growslice_fits (by simp at *; omega) (by omega)⟩, rfl⟩)
        conv => whnf
        refine dropF_zero ?_
        conv => whnf
        refine takeF_row (by omega) (by first | omega | (dsimp only; omega)) ?_
        conv => whnf
        refine catF_snoc (by first | rfl | exact hx) ?_
        conv => whnf
        intro nc2 hc1 hc2
        conv => whnf
        refine catF_row (n := nc2) (by omega) (by omega) ?_
        conv => whnf
        (rw [e1]; exact hR (i + 2, nc2) _ _ ⟨by dsimp only; omega, by dsimp only; omega⟩ (by dsimp only; omega) (fade_ren [0, 3] rfl (by (conv => whnf); rfl) ⟨⟨_, rfl, BW.recC hsL rfl⟩, ⟨_, rfl, BW.row rfl⟩, trivial⟩))
    · clear hR
      obtain rfl : i = 127 := by omega
      conv => whnf
      refine dropF_suf hsL.len 6 rfl ?_
      conv => whnf
      refine dropF_suf hsL.len 12 rfl ?_
      conv => whnf
      refine ACalls.useE (rt_wordsS s t ht hr) [] rfl (by (conv => whnf); try rfl) (by (conv => whnf); try rfl) ?_
      conv => whnf
      refine dropF_suf hsL.len 12 rfl ?_
      conv => whnf
      refine ⟨rfl, ?_⟩
      conv => whnf
      refine ACalls.useE (ref_words _ _ _) [] rfl (by (conv => whnf); try rfl) (by (conv => whnf); try rfl) ?_
      conv => whnf
      refine dropF_suf hsL.len 0 rfl ?_
      conv => whnf
      refine Bif.of (fun h0 => ?_) fun h0 => ?_
      · conv => whnf
        refine putF_rowN (f := wdS s) 3 (by first | rfl | omega | (dsimp only; omega)) rfl (by simp at *; omega) (wdA s) ?_
        conv => whnf
        refine dropF_suf hsL.len 3 rfl ?_
        conv => whnf
        refine Bif.of (fun h1 => ?_) fun h1 => ?_
        · conv => whnf
          refine putF_rowN (f := wdS s) 3 (by first | rfl | omega | (dsimp only; omega)) rfl (by simp at *; omega) (wdB s) ?_
          conv => whnf
          refine Bif.of (fun h2 => ?_) fun h2 => ?_
          · conv => whnf
            refine putF_rowN (f := wdS s) 5 (by first | rfl | omega | (dsimp only; omega)) rfl (by simp at *; omega) (wdC s) ?_
            conv => whnf
            refine Bif.of (fun h3 => ?_) fun h3 => ?_
            · conv => whnf
              refine putF_rowN (f := wdS s) 3 (by first | rfl | omega | (dsimp only; omega)) rfl (by simp at *; omega) (wdD s) ?_
              conv => whnf
              exact wk_row rfl (by simp at *; omega)
            · conv => whnf
              refine Req.of ?_ ?_
              · (simp only [decide_true, Bool.true_and, Bool.and_true, Bool.and_eq_true, decide_eq_true_eq]; exact ⟨⟨by omega, growslice_fits (by simp at *; omega) (by omega)⟩, rfl⟩)
              conv => whnf
              refine dropF_zero ?_
              conv => whnf
              refine takeF_row (by first | omega | (simp at *; omega)) (by first | rfl | omega | (dsimp only; omega)) ?_
              conv => whnf
              refine catF_rowN 3 rfl (wdD s) ?_
              conv => whnf
              intro nc2 hc1 hc2
              conv => whnf
              refine catF_row (n := nc2) (by omega) (by omega) ?_
              conv => whnf
              exact wk_row rfl (by simp at *; omega)
          · conv => whnf
            refine Req.of ?_ ?_
            · (simp only [decide_true, Bool.true_and, Bool.and_true, Bool.and_eq_true, decide_eq_true_eq]; exact ⟨⟨by omega, growslice_fits (by simp at *; omega) (by omega)⟩, rfl⟩)
            conv => whnf
            refine dropF_zero ?_
            conv => whnf
            refine takeF_row (by first | omega | (simp at *; omega)) (by first | rfl | omega | (dsimp only; omega)) ?_
            conv => whnf
            refine catF_rowN 5 rfl (wdC s) ?_
            conv => whnf
            intro nc2 hc1 hc2
            conv => whnf
            refine catF_row (n := nc2) (by omega) (by omega) ?_
            conv => whnf
            refine Bif.of (fun h4 => ?_) fun h4 => ?_
            · conv => whnf
              refine putF_rowN (f := wdS s) 3 (by first | rfl | omega | (dsimp only; omega)) rfl (by simp at *; omega) (wdD s) ?_
              conv => whnf
              exact wk_row rfl (by simp at *; omega)
            · conv => whnf
              refine Req.of ?_ ?_
              · (simp only [decide_true, Bool.true_and, Bool.and_true, Bool.and_eq_true, decide_eq_true_eq]; exact ⟨⟨by omega, growslice_fits (by simp at *; omega) (by omega)⟩, rfl⟩)
              conv => whnf
              refine dropF_zero ?_
              conv => whnf
              refine takeF_row (by first | omega | (simp at *; omega)) (by first | rfl | omega | (dsimp only; omega)) ?_
              conv => whnf
              refine catF_rowN 3 rfl (wdD s) ?_
              conv => whnf
              intro nc2 hc1 hc2
              conv => whnf
              refine catF_row (n := nc2) (by omega) (by omega) ?_
              conv => whnf
              exact wk_row rfl (by simp at *; omega)
        · conv => whnf
          refine Req.of ?_ ?_
          · (simp only [decide_true, Bool.true_and, Bool.and_true, Bool.and_eq_true, decide_eq_true_eq]; exact ⟨⟨by omega, growslice_fits (by simp at *; omega) (by omega)⟩, rfl⟩)
          conv => whnf
          refine dropF_zero ?_
          conv => whnf
          refine takeF_row (by first | omega | (simp at *; omega)) (by first | rfl | omega | (dsimp only; omega)) ?_
          conv => whnf
          refine catF_rowN 3 rfl (wdB s) ?_
          conv => whnf
          intro nc2 hc1 hc2
          conv => whnf
          refine catF_row (n := nc2) (by omega) (by omega) ?_
          conv => whnf
          refine Bif.of (fun h5 => ?_) fun h5 => ?_
          · conv => whnf
            refine putF_rowN (f := wdS s) 5 (by first | rfl | omega | (dsimp only; omega)) rfl (by simp at *; omega) (wdC s) ?_
            conv => whnf
            refine Bif.of (fun h6 => ?_) fun h6 => ?_
            · conv => whnf
              refine putF_rowN (f := wdS s) 3 (by first | rfl | omega | (dsimp only; omega)) rfl (by simp at *; omega) (wdD s) ?_
              conv => whnf
              exact wk_row rfl (by simp at *; omega)
            · conv => whnf
              refine Req.of ?_ ?_
              · (simp only [decide_true, Bool.true_and, Bool.and_true, Bool.and_eq_true, decide_eq_true_eq]; exact ⟨⟨by omega, growslice_fits (by simp at *; omega) (by omega)⟩, rfl⟩)
              conv => whnf
              refine dropF_zero ?_
              conv => whnf
              refine takeF_row (by first | omega | (simp at *; omega)) (by first | rfl | omega | (dsimp only; omega)) ?_
              conv => whnf
              refine catF_rowN 3 rfl (wdD s) ?_
              conv => whnf
              intro nc2 hc1 hc2
              conv => whnf
              refine catF_row (n := nc2) (by omega) (by omega) ?_
              conv => whnf
              exact wk_row rfl (by simp at *; omega)
          · conv => whnf
            refine Req.of ?_ ?_
            · (simp only [decide_true, Bool.true_and, Bool.and_true, Bool.and_eq_true, decide_eq_true_eq]; exact ⟨⟨by omega, growslice_fits (by simp at *; omega) (by omega)⟩, rfl⟩)
            conv => whnf
            refine dropF_zero ?_
            conv => whnf
            refine takeF_row (by first | omega | (simp at *; omega)) (by first | rfl | omega | (dsimp only; omega)) ?_
            conv => whnf
            refine catF_rowN 5 rfl (wdC s) ?_
            conv => whnf
            intro nc2 hc1 hc2
            conv => whnf
            refine catF_row (n := nc2) (by omega) (by omega) ?_
            conv => whnf
            refine Bif.of (fun h7 => ?_) fun h7 => ?_
            · conv => whnf
              refine putF_rowN (f := wdS s) 3 (by first | rfl | omega | (dsimp only; omega)) rfl (by simp at *; omega) (wdD s) ?_
              conv => whnf
              exact wk_row rfl (by simp at *; omega)
            · conv => whnf
              refine Req.of ?_ ?_
              · (simp only [decide_true, Bool.true_and, Bool.and_true, Bool.and_eq_true, decide_eq_true_eq]; exact ⟨⟨by omega, growslice_fits (by simp at *; omega) (by omega)⟩, rfl⟩)
              conv => whnf
              refine dropF_zero ?_
              conv => whnf
              refine takeF_row (by first | omega | (simp at *; omega)) (by first | rfl | omega | (dsimp only; omega)) ?_
              conv => whnf
              refine catF_rowN 3 rfl (wdD s) ?_
              conv => whnf
              intro nc2 hc1 hc2
              conv => whnf
              refine catF_row (n := nc2) (by omega) (by omega) ?_
              conv => whnf
              exact wk_row rfl (by simp at *; omega)
      · conv => whnf
        refine Req.of ?_ ?_
        · (simp only [decide_true, Bool.true_and, Bool.and_true, Bool.and_eq_true, decide_eq_true_eq]; exact ⟨⟨by omega, growslice_fits (by simp at *; omega) (by omega)⟩, rfl⟩)
        conv => whnf
        refine dropF_zero ?_
        conv => whnf
        refine takeF_row (by first | omega | (simp at *; omega)) (by first | rfl | omega | (dsimp only; omega)) ?_
        conv => whnf
        refine catF_rowN 3 rfl (wdA s) ?_
        conv => whnf
        intro nc2 hc1 hc2
        conv => whnf
        refine catF_row (n := nc2) (by omega) (by omega) ?_
        conv => whnf
        refine dropF_suf hsL.len 3 rfl ?_
        conv => whnf
        refine Bif.of (fun h8 => ?_) fun h8 => ?_
        · conv => whnf
          refine putF_rowN (f := wdS s) 3 (by first | rfl | omega | (dsimp only; omega)) rfl (by simp at *; omega) (wdB s) ?_
          conv => whnf
          refine Bif.of (fun h9 => ?_) fun h9 => ?_
          · conv => whnf
            refine putF_rowN (f := wdS s) 5 (by first | rfl | omega | (dsimp only; omega)) rfl (by simp at *; omega) (wdC s) ?_
            conv => whnf
            refine Bif.of (fun h10 => ?_) fun h10 => ?_
            · conv => whnf
              refine putF_rowN (f := wdS s) 3 (by first | rfl | omega | (dsimp only; omega)) rfl (by simp at *; omega) (wdD s) ?_
              conv => whnf
              exact wk_row rfl (by simp at *; omega)
            · conv => whnf
              refine Req.of ?_ ?_
              · (simp only [decide_true, Bool.true_and, Bool.and_true, Bool.and_eq_true, decide_eq_true_eq]; exact ⟨⟨by omega, growslice_fits (by simp at *; omega) (by omega)⟩, rfl⟩)
              conv => whnf
              refine dropF_zero ?_
              conv => whnf
              refine takeF_row (by first | omega | (simp at *; omega)) (by first | rfl | omega | (dsimp only; omega)) ?_
              conv => whnf
              refine catF_rowN 3 rfl (wdD s) ?_
              conv => whnf
              intro nc2 hc1 hc2
              conv => whnf
              refine catF_row (n := nc2) (by omega) (by omega) ?_
              conv => whnf
              exact wk_row rfl (by simp at *; omega)
          · conv => whnf
            refine Req.of ?_ ?_
            · (simp only [decide_true, Bool.true_and, Bool.and_true, Bool.and_eq_true, decide_eq_true_eq]; exact ⟨⟨by omega, growslice_fits (by simp at *; omega) (by omega)⟩, rfl⟩)
            conv => whnf
            refine dropF_zero ?_
            conv => whnf
            refine takeF_row (by first | omega | (simp at *; omega)) (by first | rfl | omega | (dsimp only; omega)) ?_
            conv => whnf
            refine catF_rowN 5 rfl (wdC s) ?_
            conv => whnf
            intro nc2 hc1 hc2
            conv => whnf
            refine catF_row (n := nc2) (by omega) (by omega) ?_
            conv => whnf
            refine Bif.of (fun h11 => ?_) fun h11 => ?_
            · conv => whnf
              refine putF_rowN (f := wdS s) 3 (by first | rfl | omega | (dsimp only; omega)) rfl (by simp at *; omega) (wdD s) ?_
              conv => whnf
              exact wk_row rfl (by simp at *; omega)
            · conv => whnf
              refine Req.of ?_ ?_
              · (simp only [decide_true, Bool.true_and, Bool.and_true, Bool.and_eq_true, decide_eq_true_eq]; exact ⟨⟨by omega, growslice_fits (by simp at *; omega) (by omega)⟩, rfl⟩)
              conv => whnf
              refine dropF_zero ?_
              conv => whnf
              refine takeF_row (by first | omega | (simp at *; omega)) (by first | rfl | omega | (dsimp only; omega)) ?_
              conv => whnf
              refine catF_rowN 3 rfl (wdD s) ?_
              conv => whnf
              intro nc2 hc1 hc2
              conv => whnf
              refine catF_row (n := nc2) (by omega) (by omega) ?_
              conv => whnf
              exact wk_row rfl (by simp at *; omega)
        · conv => whnf
          refine Req.of ?_ ?_
          · (simp only [decide_true, Bool.true_and, Bool.and_true, Bool.and_eq_true, decide_eq_true_eq]; exact ⟨⟨by omega, growslice_fits (by simp at *; omega) (by omega)⟩, rfl⟩)
          conv => whnf
          refine dropF_zero ?_
          conv => whnf
          refine takeF_row (by first | omega | (simp at *; omega)) (by first | rfl | omega | (dsimp only; omega)) ?_
          conv => whnf
          refine catF_rowN 3 rfl (wdB s) ?_
          conv => whnf
          intro nc2 hc1 hc2
          conv => whnf
          refine catF_row (n := nc2) (by omega) (by omega) ?_
          conv => whnf
          refine Bif.of (fun h12 => ?_) fun h12 => ?_
          · conv => whnf
            refine putF_rowN (f := wdS s) 5 (by first | rfl | omega | (dsimp only; omega)) rfl (by simp at *; omega) (wdC s) ?_
            conv => whnf
            refine Bif.of (fun h13 => ?_) fun h13 => ?_
            · conv => whnf
              refine putF_rowN (f := wdS s) 3 (by first | rfl | omega | (dsimp only; omega)) rfl (by simp at *; omega) (wdD s) ?_
              conv => whnf
              exact wk_row rfl (by simp at *; omega)
            · conv => whnf
              refine Req.of ?_ ?_
              · (simp only [decide_true, Bool.true_and, Bool.and_true, Bool.and_eq_true, decide_eq_true_eq]; exact ⟨⟨by omega, growslice_fits (by simp at *; omega) (by omega)⟩, rfl⟩)
              conv => whnf
              refine dropF_zero ?_
              conv => whnf
              refine takeF_row (by first | omega | (simp at *; omega)) (by first | rfl | omega | (dsimp only; omega)) ?_
              conv => whnf
              refine catF_rowN 3 rfl (wdD s) ?_
              conv => whnf
              intro nc2 hc1 hc2
              conv => whnf
              refine catF_row (n := nc2) (by omega) (by omega) ?_
              conv => whnf
              exact wk_row rfl (by simp at *; omega)
          · conv => whnf
            refine Req.of ?_ ?_
            · (simp only [decide_true, Bool.true_and, Bool.and_true, Bool.and_eq_true, decide_eq_true_eq]; exact ⟨⟨by omega, growslice_fits (by simp at *; omega) (by omega)⟩, rfl⟩)
            conv => whnf
            refine dropF_zero ?_
            conv => whnf
            refine takeF_row (by first | omega | (simp at *; omega)) (by first | rfl | omega | (dsimp only; omega)) ?_
            conv => whnf
            refine catF_rowN 5 rfl (wdC s) ?_
            conv => whnf
            intro nc2 hc1 hc2
            conv => whnf
            refine catF_row (n := nc2) (by omega) (by omega) ?_
            conv => whnf
            refine Bif.of (fun h14 => ?_) fun h14 => ?_
            · conv => whnf
              refine putF_rowN (f := wdS s) 3 (by first | rfl | omega | (dsimp only; omega)) rfl (by simp at *; omega) (wdD s) ?_
              conv => whnf
              exact wk_row rfl (by simp at *; omega)
            · conv => whnf
              refine Req.of ?_ ?_
              · (simp only [decide_true, Bool.true_and, Bool.and_true, Bool.and_eq_true, decide_eq_true_eq]; exact ⟨⟨by omega, growslice_fits (by simp at *; omega) (by omega)⟩, rfl⟩)
              conv => whnf
              refine dropF_zero ?_
              conv => whnf
              refine takeF_row (by first | omega | (simp at *; omega)) (by first | rfl | omega | (dsimp only; omega)) ?_
              conv => whnf
              refine catF_rowN 3 rfl (wdD s) ?_
              conv => whnf
              intro nc2 hc1 hc2
              conv => whnf
              refine catF_row (n := nc2) (by omega) (by omega) ?_
              conv => whnf
              exact wk_row rfl (by simp at *; omega)
end Go.Proofs
