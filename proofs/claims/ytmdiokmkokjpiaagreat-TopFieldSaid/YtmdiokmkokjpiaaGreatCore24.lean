/-
  Functions with one range over a function.
-/
import Derived.Test.YtmdiokmkokjpiaaGreatCore23
set_option linter.all false
set_option linter.unusedVariables false
set_option linter.unusedSimpArgs false
set_option linter.unnecessarySimpa false
namespace Go.Aw
section
variable {P : Program} {T : Tab}

def oneR : Code → Bool
  | .rangeFunc _ _ _ _ => true
  | .seq x y => oneR x || oneR y
  | .block _ c => oneR c
  | _ => false

/-- The marks that a range leaves behind. -/
def Marks (w0 : World) (ds : List Deferred) (μ : List Nat) (w : World) : Prop :=
  ds = [] ∨ ∃ D, ds = [markOf D] ∧ w0.heap.size ≤ D ∧ D ∉ μ ∧ w.heap[D]? = some (.deferred (some []))
def OutM (μ0 : List Nat) (H0 : List Blk) (w0 : World) (k : List Value → List Blk → Prop) (a : Act) (w : World) : Prop :=
  ∃ (μ : List Nat) (ts : List Value) (H : List Blk), SRs μ ts a.tmps.toList ∧ Rel μ H w ∧ Ext μ0 H0 w0 μ H w ∧ Marks w0 a.defers μ w ∧ k ts H
def OutXM (μ0 : List Nat) (H0 : List Blk) (w0 : World) (K : AK) : Exit → Act → World → Prop
  | .normal, a, w => OutM μ0 H0 w0 (K .normal) a w
  | .exit id, a, w => OutM μ0 H0 w0 (K (.exit id)) a w
  | .ret, a, w => OutM μ0 H0 w0 (K .ret) a w
  | _, _, _ => False

/-- A range over a function, as it is met: with no deferred calls yet. -/
structure ARange (P : Program) (T : Tab) (hs : Hints) (c : Code) (K : AK) (ts : List Value) (H : List Blk) : Prop where
  out : ∀ (μ : List Nat) (a : Act) (w : World), SRs μ ts a.tmps.toList → Rel μ H w → a.defers = [] → c.wpIn Fence.wide 0 P (OutXM μ H w K) a w

def AWpO (P : Program) (T : Tab) (hs : Hints) : Code → AK → List Value → List Blk → Prop
  | .rangeFunc g ps x y, K, ts, H => ARange P T hs (.rangeFunc g ps x y) K ts H
  | .seq x y, K, ts, H => match oneR x with
    | true => AWpO P T hs x (fun e ts H => match e with | .normal => AWp P T hs y K ts H | e => K e ts H) ts H
    | false => AWp P T hs x (fun e ts H => match e with | .normal => AWpO P T hs y K ts H | e => K e ts H) ts H
  | .block id c, K, ts, H => AWpO P T hs c (fun e ts H => match e with | .exit j => (match Nat.beq j id with | true => K .normal ts H | false => K (.exit j) ts H) | e => K e ts H) ts H
  | _, _, _, _ => False

def okO (T : Tab) (hs : Hints) : Code → Bool
  | .rangeFunc _ _ _ _ => true
  | .seq x y => match oneR x with
    | true => okO T hs x && (plainC y && codeOk T hs y)
    | false => codeOk T hs x && okO T hs y
  | .block _ c => okO T hs c
  | _ => false

theorem Marks.ext {w0 w1 w2 : World} {ds : List Deferred} {μ1 μ2 : List Nat} {H1 H2 : List Blk} (h : Marks w0 ds μ1 w1) (hx : Ext μ1 H1 w1 μ2 H2 w2) : Marks w0 ds μ2 w2 := by
  rcases h with h | ⟨D, h1, h2, h3, h4⟩
  · exact .inl h
  · have hlt := (Array.getElem?_eq_some_iff.1 h4).1
    exact .inr ⟨D, h1, h2, not_mem_ext hx hlt h3, (hx.same _ hlt (not_own h3)).trans h4⟩

theorem Marks.later {w0 w1 w2 : World} {ds : List Deferred} {μ : List Nat} (h : Marks w1 ds μ w2) (hs : w0.heap.size ≤ w1.heap.size) : Marks w0 ds μ w2 := by
  rcases h with h | ⟨D, h1, h2, h3, h4⟩
  · exact .inl h
  · exact .inr ⟨D, h1, by omega, h3, h4⟩

theorem OutXM.of {μ0 : List Nat} {H0 : List Blk} {w0 : World} {K : AK} {e : Exit} {a : Act} {w : World} (h : OutX μ0 H0 w0 K e a w) : OutXM μ0 H0 w0 K e a w := by
  cases e <;> first | exact False.elim h | (obtain ⟨μ, ts, H, h1, h2, h3, h4, h5⟩ := h; exact ⟨μ, ts, H, h1, h2, h3, .inl h4, h5⟩)

theorem codeO_sound (hT : TabOk P T) (hs : Hints) : ∀ (c : Code) (K : AK) (ts : List Value) (H : List Blk), okO T hs c = true → AWpO P T hs c K ts H →
    ∀ (μ : List Nat) (a : Act) (w : World), SRs μ ts a.tmps.toList → Rel μ H w → a.defers = [] → c.wpIn Fence.wide 0 P (OutXM μ H w K) a w := by
  intro c
  induction c with
  | rangeFunc g ps x y _ _ => intro K ts H _ h μ a w hv hr hd; exact h.out μ a w hv hr hd
  | seq x y ihx ihy =>
    intro K ts H ho h μ a w hv hr hd
    unfold AWpO at h
    unfold okO at ho
    cases hx : oneR x with
    | true =>
      rw [hx] at h ho
      simp only [Bool.and_eq_true] at ho
      refine wpIn_seq (wpIn_mono (ihx _ ts H ho.1 h μ a w hv hr hd) fun e a1 w1 h1 => ?_)
      cases e with
      | normal =>
        obtain ⟨μ1, ts1, H1, hv1, hr1, hx1, hm1, h1⟩ := h1
        refine wpIn_mono (F := wideR none) (code_in (r := none) (n := 0) (ds := a1.defers) hT hs y K ts1 H1 ho.2.1 ho.2.2 h1 μ1 a1 w1 hv1 hr1 rfl) fun e a2 w2 h2 => ?_
        cases e <;> first | exact False.elim h2 | (obtain ⟨μ2, ts2, H2, hv2, hr2, hx2, hd2, h2⟩ := h2; exact ⟨μ2, ts2, H2, hv2, hr2, hx1.trans hr.len hr1.len hx2, by rw [hd2]; exact hm1.ext hx2, h2⟩)
      | exit id => exact h1
      | ret => exact h1
      | goto l => exact h1
      | panic c => exact h1
      | outgrown => exact h1
    | false =>
      rw [hx] at h ho
      simp only [Bool.and_eq_true] at ho
      refine wpIn_seq (wpIn_mono (wpIn_wide.2 (code_sound hT hs x _ ts H ho.1 h μ a w hv hr hd)) fun e a1 w1 h1 => ?_)
      cases e with
      | normal =>
        obtain ⟨μ1, ts1, H1, hv1, hr1, hx1, hd1, h1⟩ := h1
        refine wpIn_mono (ihy K ts1 H1 ho.2 h1 μ1 a1 w1 hv1 hr1 hd1) fun e a2 w2 h2 => ?_
        cases e <;> first | exact False.elim h2 | (obtain ⟨μ2, ts2, H2, hv2, hr2, hx2, hm2, h2⟩ := h2; exact ⟨μ2, ts2, H2, hv2, hr2, hx1.trans hr.len hr1.len hx2, hm2.later hx1.size, h2⟩)
      | exit id => exact OutXM.of h1
      | ret => exact OutXM.of h1
      | goto l => exact h1
      | panic c => exact h1
      | outgrown => exact h1
  | block id c ih =>
    intro K ts H ho h μ a w hv hr hd
    refine wpIn_block (wpIn_mono (ih _ ts H ho h μ a w hv hr hd) fun e a1 w1 h1 => ?_)
    cases e with
    | normal => exact h1
    | exit j =>
      simp only [OutXM, Exit.inBlock] at h1 ⊢
      cases hj : Nat.beq j id with
      | true =>
        simp only [hj] at h1
        rw [if_pos (Nat.eq_of_beq_eq_true hj)]
        exact h1
      | false =>
        simp only [hj] at h1
        rw [if_neg (fun e => by rw [e] at hj; simp at hj)]
        exact h1
    | ret => exact h1
    | goto l => exact h1
    | panic c => exact h1
    | outgrown => exact h1
  | _ => intro K ts H ho; simp [okO] at ho

theorem fin_results (hT : TabOk P T) {fn : Func} {R : Value → List Blk → Prop} {μ μ1 : List Nat} {H H1 : List Blk} {w w' : World} {ts1 : List Value} {tmps : Array Value} (hv1 : SRs μ1 ts1 tmps.toList) (hr1 : Rel μ1 H1 w') (hx1 : Ext μ H w μ1 H1 w')
    (h2 : resF T H1 ts1 fn.results.toList fun vs => match vs with | [v] => R v H1 | vs => R (.tuple vs.toArray) H1) :
    ∃ v, (results fn tmps).run P w' = .ok v w' ∧ ∃ (v' cv : Value) (μ' : List Nat) (H' : List Blk), Ending.returned v = .returned cv ∧ VR μ' v' cv ∧ Rel μ' H' w' ∧ Ext μ H w μ' H' w' ∧ R v' H' := by
  obtain ⟨vs, cvs, hk, hvs, hrun⟩ := res_sound hT hv1 hr1 _ h2
  have hm : (fn.results.mapM (resStep tmps)).run P w' = .ok cvs.toArray w' := by
    rw [Array.mapM_eq_mapM_toList]
    simp [hrun]
  cases vs with
  | nil =>
    have hc0 : cvs = [] := by have := hvs.1; simpa using this.symm
    subst hc0
    exact ⟨.tuple #[], by rw [results_eq]; simp [hm], _, _, μ1, H1, rfl, VR.tups VRs.nil, hr1, hx1, hk⟩
  | cons v vs =>
    cases cvs with
    | nil => exact absurd hvs.1 (by simp)
    | cons cv cvs =>
      cases vs with
      | nil =>
        have hc0 : cvs = [] := by have := hvs.1; simpa using this.symm
        subst hc0
        exact ⟨cv, by rw [results_eq]; simp [hm], _, _, μ1, H1, rfl, hvs.2 0 _ _ rfl rfl, hr1, hx1, hk⟩
      | cons v2 vs =>
        cases cvs with
        | nil => exact absurd hvs.1 (by simp)
        | cons cv2 cvs => exact ⟨.tuple (cv :: cv2 :: cvs).toArray, by rw [results_eq]; simp [hm], _, _, μ1, H1, rfl, VR.tups hvs, hr1, hx1, hk⟩

theorem ACalls.introO (hT : TabOk P T) (hs : Hints) {f : FuncId} {fn : Func} {c : Code} {args : List Value} {H : List Blk} {R : Value → List Blk → Prop} (hf : P.funcs[f]? = some fn) (hb : fn.body = some c)
    (hcall : ∀ (args : Array Value) (w : World), (callFunc f args).run P w = .ok (.enter f args) w) (hok : okO T hs c = true)
    (h : AWpO P T hs c (postF T fn.results.toList R) (args ++ List.replicate (fn.ntmps - args.length) undef) H) : ACalls P f args H R := by
  refine ⟨fun μ w cargs hv hr => ⟨hcall _ _, (callsIn_wide (n := 0)).1 (callsIn_of_wp_marks hf hb trivial ?_)⟩⟩
  have hv' : VRs μ (args ++ List.replicate (fn.ntmps - args.length) undef) ((cargs.toArray ++ Array.replicate (fn.ntmps - cargs.toArray.size) undef).toList) := by
    simp only [Array.toList_append, Array.toList_replicate, List.size_toArray]
    rw [hv.1]
    exact hv.append (VRs.replicate _ VR.undef)
  refine wpIn_mono (codeO_sound hT hs c _ _ H hok h μ _ w hv'.sr hr rfl) fun e a w' ho => ?_
  have fin : ∀ {e : Ex}, (∀ id, e ≠ .exit id) → OutM μ H w (postF T fn.results.toList R e) a w' →
      LeavesInM Fence.wide 0 P fn a.tmps (fun e w' => ∃ (v' cv : Value) (μ' : List Nat) (H' : List Blk), e = .returned cv ∧ VR μ' v' cv ∧ Rel μ' H' w' ∧ Ext μ H w μ' H' w' ∧ R v' H') a.defers .returning w' := fun {e} he ho => by
    obtain ⟨μ1, ts1, H1, hv1, hr1, hx1, hm1, h1⟩ := ho
    have h2 : resF T H1 ts1 fn.results.toList fun vs => match vs with | [v] => R v H1 | vs => R (.tuple vs.toArray) H1 := by
      cases e with
      | exit id => exact absurd rfl (he id)
      | normal => exact h1
      | ret => exact h1
    rcases hm1 with hd | ⟨D, hd, hD1, hD2, hD3⟩
    · rw [hd]
      exact fin_results hT hv1 hr1 hx1 h2
    · rw [hd]
      refine ⟨by simp, .inl ⟨D, w'.putObj D (.deferred none), rfl, run_takeDeferred hD3, ?_⟩⟩
      exact fin_results hT hv1 (hr1.putObj hD2 _) (hx1.putObj hD1 _) h2
  cases e with
  | normal => exact fin (e := .normal) (by simp) ho
  | ret => exact fin (e := .ret) (by simp) ho
  | exit id =>
    obtain ⟨_, _, _, _, _, _, _, h5⟩ := ho
    exact False.elim h5
  | goto l => exact False.elim ho
  | panic c => exact False.elim ho
  | outgrown => exact False.elim ho

theorem ARange.mk' {hs : Hints} {c : Code} {K : AK} {ts : List Value} {H : List Blk} (h : ∀ (μ : List Nat) (a : Act) (w : World), SRs μ ts a.tmps.toList → Rel μ H w → a.defers = [] → c.wpIn Fence.wide 0 P (OutXM μ H w K) a w) : ARange P T hs c K ts H := ⟨h⟩
end
end Go.Aw
