/-
  Walks through the functions of the program, by contract.
-/
import Derived.Test.YtmdiokmkokjpiaaGreatZfF
set_option linter.all false
set_option linter.unusedVariables false
set_option linter.unusedSimpArgs false
set_option linter.unnecessarySimpa false
namespace Go.Proofs
open Go.Aw
set_option maxRecDepth 100000
set_option maxHeartbeats 8000000
def hb2 (p ln sc : Nat) (a b : Int) : List Blk := thH p ln sc ++ [.cells [.int .i64 0, .int .i64 0] 132, .cells [.int .i64 a, .int .i64 b] 132, .cells [.int .i64 2] 3, .cells [.pointer (some ⟨0, 0, none⟩)] 53]
theorem ages_range {hs : Hints} {asg body : Code} {K : AK} {ts : List Value} {p ln sc : Nat} (hln : ln < 256) (hx : ts[8]? = some (.func (.func 115) #[] #[.pointer (some ⟨8, 0, none⟩)]))
    (hpa : plainC asg = true) (hpb : plainC body = true) (hoa : codeOk T hs asg = true) (hob : codeOk T hs body = true)
    (hround : ∀ (s : Option Int) (v : Int), AWp Tryz.prog T hs asg (fun e ts1 H1 => match e with | .normal => AWp Tryz.prog T hs body (KRound (s = none) (hbA p ln sc s) (hbA p ln sc (some v)) (fun c H' => ∃ a, s = some a ∧ c = .exit 0 ∧ H' = hb2 p ln sc a v)) ts1 H1 | _ => False) (ts.set 9 (.int .i64 v)) (hbA p ln sc s))
    (hK1 : ∀ x, agesF ln sc 8 0 = [x] → K .normal ts (hbA p ln sc (some x))) (hK2 : ∀ x y l, agesF ln sc 8 0 = x :: y :: l → K (.exit 0) ts (hb2 p ln sc x y)) :
    ARange Tryz.prog T hs (.rangeFunc (.tmp 8) #[9] asg body) K ts (hbA p ln sc none) := by
  refine ⟨fun μ a w hv hr hd => ?_⟩
  obtain ⟨y, hy, hsr⟩ := hv.get hx
  replace hsr := hsr.resolve_left (by simp [junk])
  have heval0 : a.eval (.tmp 8) = y := by
    have : a.tmps[8]? = some y := by simpa using hy
    simp [Act.eval, this]
  cases hsr with
  | fn _ _ a' _ c' ha hc ra rc =>
    have ha' : a' = #[] := Array.size_eq_zero_iff.1 (by simpa using ha.symm)
    subst ha'
    obtain ⟨c0, rfl⟩ : ∃ c0, c' = #[c0] := by
      have h2 : c'.size = 1 := by simpa using hc.symm
      exact ⟨c'[0], Array.ext (by simpa using h2) fun k hk1 hk2 => by
        have : k = 0 := by simp at hk2; omega
        subst this; rfl⟩
    obtain ⟨c1, rfl, hc1⟩ := (rc 0 _ _ rfl rfl).of_ptr
    refine wpIn_rangeFunc ?_
    intro fnn hfn
    obtain ⟨rec, hrec⟩ : ∃ rec : LoopState → Option Code → Loop, rec = fun st pe => { state := st, pending := pe, fn := fnn, tmps := a.tmps, params := #[9], assign := asg, body, defers := w.heap.size } := ⟨_, rfl⟩
    obtain ⟨W1, hW1⟩ : ∃ W1, (w.alloc (.deferred (some []))).alloc (.loop (rec .ready none)) = W1 := ⟨_, rfl⟩
    have hD : w.heap.size ∉ μ := fun h => Nat.lt_irrefl _ (hr.lt _ h)
    have hL : w.heap.size + 1 ∉ μ := fun h => by have := hr.lt _ h; omega
    obtain ⟨r1, x1⟩ := hr.bigger (.deferred (some []))
    obtain ⟨r2, x2⟩ := r1.bigger (.loop (rec .ready none))
    rw [hW1] at r2 x2
    have hx1 : Ext μ (hbA p ln sc none) w μ (hbA p ln sc none) W1 := x1.trans hr.len r1.len x2
    have hL1 : W1.heap[w.heap.size + 1]? = some (.loop (rec .ready none)) := by
      rw [← hW1]; have := World.alloc_heap_new (w.alloc (.deferred (some []))) (.loop (rec .ready none)); rwa [World.size_alloc] at this
    have hK1' : W1.heap[w.heap.size]? = some (.deferred (some [])) := by
      rw [← hW1]; exact (heap_alloc_old _ _ (by simp)).trans (World.alloc_heap_new w _)
    refine ⟨w.heap.size + 1, [{ target := .collected w.heap.size, args := #[] }], W1, { target := .fn (.func 115) #[.pointer (some ⟨c1, 0, none⟩)], args := #[.func (.yield (w.heap.size + 1)) #[] #[]] }, W1, 115,
      #[.func (.yield (w.heap.size + 1)) #[] #[], .pointer (some ⟨c1, 0, none⟩)], W1, ?_, ?_, fun _ _ => trivial, ?_, fun h => by simp [Fence.wide] at h, ?_⟩
    · rw [← hW1, hrec]; exact run_enterLoop_outer _ _ _ _ _
    · simp only [resolve, heval0]
      simp [Act.eval, Deferred.ofValue, Sem.run_bind]
    · simp [invoke, Tryz.call115]
    · refine (ages_iter (p := p) (ln := ln) (sc := sc) hln hc1 (fun s W => JR μ (hbA p ln sc none) w (rec .ready none) (hbA p ln sc s) W) (fun x z W => JX μ (hbA p ln sc none) w (fun c => rec .done (some c)) (fun c H' => c = .exit 0 ∧ H' = hb2 p ln sc x z) W) (fun s W h => h.rel) ?_ ?_ W1 ⟨r2, hx1, hL1, hK1'⟩).mono ?_
      · intro s v W hj
        have h1 := yield_round (go := s = none) (HB := hbA p ln sc (some v)) (KX := fun c H' => ∃ a, s = some a ∧ c = .exit 0 ∧ H' = hb2 p ln sc a v) tabOk hs hv hr hrec hD hL (W := W) (Hk := hbA p ln sc s) (v := .int .i64 v) rfl (.int _ _) hpa hpb hoa hob (hround s v) hj
        obtain ⟨f', t', a', b', h2, h3⟩ := h1
        refine ⟨f', t', a', b', h2, RoundIn.mono' h3 ?_⟩
        rintro e W' (⟨he, hg, hj'⟩ | ⟨he, c, μ', H', ⟨a, hs', hcc, hH'⟩, q1, q2, q3, q4, q5, q6⟩)
        · exact .inl ⟨he, hg, hj'⟩
        · exact .inr ⟨he, a, hs', c, μ', H', ⟨hcc, hH'⟩, q1, q2, q3, q4, q5, q6⟩
      · rintro x z W ⟨c, μ', H', _, q1, q2, _⟩
        exact ⟨μ', H', q1, q2.sub⟩
      · rintro e W ⟨⟨v, rfl⟩, hg⟩
        have hmk : ∀ (W2 : World) (μ2 : List Nat), W2.heap[w.heap.size]? = some (.deferred (some [])) → w.heap.size ∉ μ2 → Marks w (markOf w.heap.size :: a.defers) μ2 W2 := fun W2 μ2 h1 h2 => .inr ⟨_, by rw [hd], Nat.le_refl _, h2, h1⟩
        cases hl : agesF ln sc 8 0 with
        | nil => exact absurd hl (agesF_ne _ _ _ _)
        | cons x l =>
          rw [hl] at hg
          cases l with
          | nil =>
            have hj : JR μ (hbA p ln sc none) w (rec .ready none) (hbA p ln sc (some x)) W := hg
            refine ⟨none, _, by have := run_endLoop (P := Tryz.prog) hj.loop (by rw [hrec]; simp); rw [hrec] at this; exact this, ?_⟩
            exact ⟨μ, ts, _, hv, hj.rel.putObj hL _, hj.ext.putObj (by omega) _, hmk _ _ ((World.putObj_heap_other (by omega)).trans hj.def_) hD, hK1 x hl⟩
          | cons z l =>
            obtain ⟨c, μ', H', ⟨rfl, rfl⟩, q1, q2, q3, q4, q5, q6⟩ := hg
            refine ⟨some (.exit 0), _, by have := run_endLoop (P := Tryz.prog) q3 (by rw [hrec]; simp); rw [hrec] at this; exact this, ?_⟩
            exact wpIn_exit ⟨μ', ts, _, hv.mono q2.sub, q1.putObj q6 _, q2.putObj (by omega) _, hmk _ _ ((World.putObj_heap_other (by omega)).trans q4) q5, hK2 x z l hl⟩
end Go.Proofs
