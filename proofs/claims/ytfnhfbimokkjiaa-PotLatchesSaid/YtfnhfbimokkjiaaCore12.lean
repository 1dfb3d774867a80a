/-
  Code, whole; functions; contracts used in a larger heap.
-/
import Derived.Test.YtfnhfbimokkjiaaCore11
import Derived.LoopN
set_option linter.all false
set_option linter.unusedVariables false
set_option linter.unusedSimpArgs false
set_option linter.unnecessarySimpa false
namespace Go.Aw
section
variable {P : Program} {T : Tab}

def lookupH : Hints → Nat → Option Plan
  | [], _ => none
  | (j, p) :: hs, i => match Nat.beq j i with | true => some p | false => lookupH hs i

theorem hint_iff {hs : Hints} {i : Nat} {k : Plan → Prop} (h : hintF hs i k) : ∃ p, lookupH hs i = some p ∧ k p := by
  induction hs with
  | nil => exact False.elim h
  | cons x hs ih =>
    obtain ⟨j, p⟩ := x
    unfold hintF at h
    unfold lookupH
    cases hb : Nat.beq j i with
    | true => simp only [hb] at h; exact ⟨p, rfl, h⟩
    | false => simp only [hb] at h; exact ih h

def opsOk (ops : Array Oper) : Bool := ops.toList.all fun o => o.op.operands.toList.all opOk

/-- What is asked of a function's code, once and for all. -/
def codeOk (T : Tab) (hs : Hints) : Code → Bool
  | .skip => true
  | .region _ ops false => opsOk ops
  | .region id ops true => opsOk ops && match lookupH hs id with | some p => planOk T ops p | none => false
  | .seq a b => codeOk T hs a && codeOk T hs b
  | .cond c a b => opOk c && codeOk T hs a && codeOk T hs b
  | .block _ c => codeOk T hs c
  | .loop c => codeOk T hs c
  | .exit _ => true
  | .ret => true
  | _ => false

/-- Where code comes out. -/
def OutX (μ0 : List Nat) (H0 : List Blk) (w0 : World) (K : AK) : Exit → Act → World → Prop
  | .normal, a, w => Out μ0 H0 w0 (K .normal) a w
  | .exit id, a, w => Out μ0 H0 w0 (K (.exit id)) a w
  | .ret, a, w => Out μ0 H0 w0 (K .ret) a w
  | _, _, _ => False

theorem Out.mono {μ0 : List Nat} {H0 : List Blk} {w0 : World} {k k' : List Value → List Blk → Prop} (hk : ∀ ts H, k ts H → k' ts H) {a : Act} {w : World} (h : Out μ0 H0 w0 k a w) : Out μ0 H0 w0 k' a w := by
  obtain ⟨μ, ts, H, h1, h2, h3, h4, h5⟩ := h
  exact ⟨μ, ts, H, h1, h2, h3, h4, hk _ _ h5⟩

theorem Out.trans {μ0 μ1 : List Nat} {H0 H1 : List Blk} {w0 w1 : World} (hl0 : H0.length = μ0.length) (hl1 : H1.length = μ1.length) (hx : Ext μ0 H0 w0 μ1 H1 w1) {k : List Value → List Blk → Prop} {a : Act} {w : World} (h : Out μ1 H1 w1 k a w) : Out μ0 H0 w0 k a w := by
  obtain ⟨μ, ts, H, h1, h2, h3, h4, h5⟩ := h
  exact ⟨μ, ts, H, h1, h2, hx.trans hl0 hl1 h3, h4, h5⟩

theorem OutX.trans {μ0 μ1 : List Nat} {H0 H1 : List Blk} {w0 w1 : World} (hl0 : H0.length = μ0.length) (hl1 : H1.length = μ1.length) (hx : Ext μ0 H0 w0 μ1 H1 w1) {K : AK} (e : Exit) (a : Act) (w : World) (h : OutX μ1 H1 w1 K e a w) : OutX μ0 H0 w0 K e a w := by
  cases e <;> first | exact Out.trans hl0 hl1 hx h | exact h

theorem of_atEnd {μ0 : List Nat} {H0 : List Blk} {w0 : World} {K : AK} (e : Exit) (a : Act) (w : World) (h : AtEnd (Out μ0 H0 w0 (K .normal)) e a w) : OutX μ0 H0 w0 K e a w := by
  cases e <;> first | exact h | exact False.elim h

theorem code_sound (hT : TabOk P T) (hs : Hints) : ∀ (c : Code) (K : AK) (ts : List Value) (H : List Blk), codeOk T hs c = true → AWp P T hs c K ts H →
    ∀ (μ : List Nat) (a : Act) (w : World), VRs μ ts a.tmps.toList → Rel μ H w → a.defers = [] → c.wp P (OutX μ H w K) a w := by
  intro c
  induction c with
  | skip => intro K ts H _ h μ a w hv hr hd; exact wp_skip ⟨μ, ts, H, hv, hr, Ext.refl _ _ _, hd, h⟩
  | region id ops draw =>
    intro K ts H ho h μ a w hv hr hd
    cases draw with
    | false =>
      have hok : ∀ o ∈ ops.toList, o.op.operands.toList.all opOk = true := fun o hm => (List.all_eq_true.1 ho) o hm
      have := ops_sound (μ0 := μ) (H0 := H) (w0 := w) (K := K .normal) hT hok hr.len ops.toList 0 rfl μ ts H a w h hv hr (Ext.refl _ _ _) hd
      refine wp_mono (wp_region (id := id) ?_) fun e a w h => of_atEnd e a w h
      rw [List.range_eq_range']
      simpa using this
    | true =>
      simp only [codeOk, Bool.and_eq_true] at ho
      have hok : ∀ o ∈ ops.toList, o.op.operands.toList.all opOk = true := fun o hm => (List.all_eq_true.1 ho.1) o hm
      obtain ⟨p, hp, h⟩ := hint_iff h
      have hpl : planOk T ops p = true := by have := ho.2; rw [hp] at this; exact this
      exact wp_mono (region_draw hT hpl hok h hv hr hd) fun e a w h => of_atEnd e a w h
  | seq x y ihx ihy =>
    intro K ts H ho h μ a w hv hr hd
    simp only [codeOk, Bool.and_eq_true] at ho
    refine wp_seq (wp_mono (ihx _ ts H ho.1 h μ a w hv hr hd) fun e a1 w1 h1 => ?_)
    cases e with
    | normal =>
      obtain ⟨μ1, ts1, H1, hv1, hr1, hx1, hd1, h1⟩ := h1
      exact wp_mono (ihy K ts1 H1 ho.2 h1 μ1 a1 w1 hv1 hr1 hd1) fun e a w h => OutX.trans hr.len hr1.len hx1 e a w h
    | exit id => exact h1
    | ret => exact h1
    | goto l => exact h1
    | panic c => exact h1
    | outgrown => exact h1
  | cond c x y ihx ihy =>
    intro K ts H ho h μ a w hv hr hd
    simp only [codeOk, Bool.and_eq_true] at ho
    obtain ⟨v, h, hcv⟩ := ev_sound hv h ho.1.1
    obtain ⟨b, rfl⟩ : ∃ b, v = .bool b := by
      split at h
      · exact ⟨_, rfl⟩
      · exact False.elim h
    have hc : a.eval c = .bool b := by generalize a.eval c = z at hcv; cases hcv; rfl
    rcases bif_iff h with ⟨rfl, h⟩ | ⟨rfl, h⟩
    · exact wp_cond_true hc (ihx K ts H ho.1.2 h μ a w hv hr hd)
    · exact wp_cond_false hc (ihy K ts H ho.2 h μ a w hv hr hd)
  | block id c ih =>
    intro K ts H ho h μ a w hv hr hd
    refine wp_block (wp_mono (ih _ ts H ho h μ a w hv hr hd) fun e a1 w1 h1 => ?_)
    cases e with
    | normal => exact h1
    | exit j =>
      simp only [OutX, Exit.inBlock] at h1 ⊢
      cases hj : Nat.beq j id with
      | true =>
        simp only [hj] at h1
        rw [if_pos (Nat.eq_of_beq_eq_true hj)]
        exact h1
      | false =>
        simp only [hj] at h1
        rw [if_neg (fun e => by rw [e] at hj; simp at hj)]
        exact h1
    | ret => exact h1
    | goto l => exact h1
    | panic c => exact h1
    | outgrown => exact h1
  | loop c ih =>
    intro K ts H ho h μ a w hv hr hd
    obtain ⟨n, h⟩ := h
    refine wp_loop_rounds n ?_
    have key : ∀ (n : Nat) (ts : List Value) (H1 : List Blk) (μ1 : List Nat) (a1 : Act) (w1 : World), rounds (AWp P T hs c) K n ts H1 → VRs μ1 ts a1.tmps.toList → Rel μ1 H1 w1 → a1.defers = [] → Ext μ H w μ1 H1 w1 → Code.rounds P c (OutX μ H w K) n a1 w1 := by
      intro n
      induction n with
      | zero => intro ts H1 μ1 a1 w1 h; exact False.elim h
      | succ n ihn =>
        intro ts H1 μ1 a1 w1 h hv1 hr1 hd1 hx1
        rw [rounds_succ]
        refine wp_mono (ih _ ts H1 ho h μ1 a1 w1 hv1 hr1 hd1) fun e a2 w2 h2 => ?_
        cases e with
        | normal =>
          obtain ⟨μ2, ts2, H2, hv2, hr2, hx2, hd2, h2⟩ := h2
          exact ihn ts2 H2 μ2 a2 w2 h2 hv2 hr2 hd2 (hx1.trans hr.len hr1.len hx2)
        | exit id => exact Out.trans hr.len hr1.len hx1 h2
        | ret => exact Out.trans hr.len hr1.len hx1 h2
        | goto l => exact h2
        | panic c => exact h2
        | outgrown => exact h2
    exact key n ts H μ a w h hv hr hd (Ext.refl _ _ _)
  | exit id => intro K ts H _ h μ a w hv hr hd; exact wp_exit ⟨μ, ts, H, hv, hr, Ext.refl _ _ _, hd, h⟩
  | ret => intro K ts H _ h μ a w hv hr hd; exact wp_ret ⟨μ, ts, H, hv, hr, Ext.refl _ _ _, hd, h⟩
  | _ => intro K ts H ho; simp [codeOk] at ho

/-! ### What a function hands back -/
def resStep (tmps : Array Value) : ResultVar → Sem Value
  | .tmp t => pure (tmps.getD t undef)
  | .cell a t => do loadVar t (← asAddr (tmps.getD a undef))

theorem res_sound (hT : TabOk P T) {μ : List Nat} {ts : List Value} {H : List Blk} {tmps : Array Value} {w : World} (hv : VRs μ ts tmps.toList) (hr : Rel μ H w) : ∀ (rs : List ResultVar) {k : List Value → Prop}, resF T H ts rs k →
    ∃ vs cvs, k vs ∧ VRs μ vs cvs ∧ (rs.mapM (resStep tmps)).run P w = .ok cvs w
  | [], k, h => ⟨[], [], h, VRs.nil, rfl⟩
  | .tmp t :: rs, k, h => by
    obtain ⟨v, hvt, h⟩ := getF_iff h
    obtain ⟨cv, hcv, hvr⟩ := hv.get hvt
    obtain ⟨vs, cvs, hk, hvs, hrun⟩ := res_sound hT hv hr rs h
    have : tmps[t]? = some cv := by simpa using hcv
    exact ⟨v :: vs, cv :: cvs, hk, VRs.cons hvr hvs, by simp [List.mapM_cons, resStep, this, hrun]⟩
  | .cell a t :: rs, k, h => by
    obtain ⟨p, hp, h⟩ := getF_iff h
    obtain ⟨cp, hcp, hpr⟩ := hv.get hp
    obtain ⟨i, o, v, rfl, h, hl⟩ := load_sound h
    obtain ⟨b, rfl, hμ⟩ := hpr.of_ptr
    obtain ⟨l, hvl, hc⟩ := hl.cells μ w b hr hμ
    obtain ⟨cv, hvr, hrun0⟩ := ld_run (o := o) (b := b) hT hl hvl
    obtain ⟨vs, cvs, hk, hvs, hrun⟩ := res_sound hT hv hr rs h
    have : tmps[a]? = some (.pointer (some ⟨b, o, none⟩)) := by simpa using hcp
    exact ⟨v :: vs, cv :: cvs, hk, VRs.cons hvr hvs, by simp [List.mapM_cons, resStep, this, asAddr, hrun0 w hc, hrun]⟩

theorem results_eq (fn : Func) (tmps : Array Value) : results fn tmps = (do let vs ← fn.results.mapM (resStep tmps); pure (if h : vs.size = 1 then vs[0] else .tuple vs)) := by
  unfold results
  congr 2

theorem ACalls.intro (hT : TabOk P T) (hs : Hints) {f : FuncId} {fn : Func} {c : Code} {args : List Value} {H : List Blk} {R : Value → List Blk → Prop} (hf : P.funcs[f]? = some fn) (hb : fn.body = some c)
    (hcall : ∀ (args : Array Value) (w : World), (callFunc f args).run P w = .ok (.enter f args) w) (hok : codeOk T hs c = true)
    (h : AWp P T hs c (postF T fn.results.toList R) (args ++ List.replicate (fn.ntmps - args.length) undef) H) : ACalls P f args H R := by
  refine ⟨fun μ w cargs hv hr => ⟨hcall _ _, calls_of_wp hf hb ?_⟩⟩
  have hv' : VRs μ (args ++ List.replicate (fn.ntmps - args.length) undef) ((cargs.toArray ++ Array.replicate (fn.ntmps - cargs.toArray.size) undef).toList) := by
    simp only [Array.toList_append, Array.toList_replicate, List.size_toArray]
    rw [hv.1]
    exact hv.append (VRs.replicate _ VR.undef)
  refine wp_mono (code_sound hT hs c _ _ H hok h μ _ w hv' hr rfl) fun e a w' ho => ?_
  have fin : ∀ {e : Ex}, (∀ id, e ≠ .exit id) → Out μ H w (postF T fn.results.toList R e) a w' → a.defers = [] ∧ ∃ v, (results fn a.tmps).run P w' = .ok v w' ∧ ∃ (v' cv : Value) (μ' : List Nat) (H' : List Blk), Ending.returned v = .returned cv ∧ VR μ' v' cv ∧ Rel μ' H' w' ∧ Ext μ H w μ' H' w' ∧ R v' H' := fun {e} he ho => by
    obtain ⟨μ1, ts1, H1, hv1, hr1, hx1, hd1, h1⟩ := ho
    have h2 : resF T H1 ts1 fn.results.toList fun vs => match vs with | [v] => R v H1 | vs => R (.tuple vs.toArray) H1 := by
      cases e with
      | exit id => exact absurd rfl (he id)
      | normal => exact h1
      | ret => exact h1
    obtain ⟨vs, cvs, hk, hvs, hrun⟩ := res_sound hT hv1 hr1 _ h2
    refine ⟨hd1, ?_⟩
    have hm : (fn.results.mapM (resStep a.tmps)).run P w' = .ok cvs.toArray w' := by
      rw [Array.mapM_eq_mapM_toList]
      simp [hrun]
    cases vs with
    | nil =>
      have hc0 : cvs = [] := by have := hvs.1; simpa using this.symm
      subst hc0
      exact ⟨.tuple #[], by rw [results_eq]; simp [hm], _, _, μ1, H1, rfl, VR.tups VRs.nil, hr1, hx1, hk⟩
    | cons v vs =>
      cases cvs with
      | nil => exact absurd hvs.1 (by simp)
      | cons cv cvs =>
        cases vs with
        | nil =>
          have hc0 : cvs = [] := by have := hvs.1; simpa using this.symm
          subst hc0
          exact ⟨cv, by rw [results_eq]; simp [hm], _, _, μ1, H1, rfl, hvs.2 0 _ _ rfl rfl, hr1, hx1, hk⟩
        | cons v2 vs =>
          cases cvs with
          | nil => exact absurd hvs.1 (by simp)
          | cons cv2 cvs => exact ⟨.tuple (cv :: cv2 :: cvs).toArray, by rw [results_eq]; simp [hm], _, _, μ1, H1, rfl, VR.tups hvs, hr1, hx1, hk⟩
  cases e with
  | normal => exact fin (e := .normal) (by simp) ho
  | ret => exact fin (e := .ret) (by simp) ho
  | exit id =>
    obtain ⟨_, _, _, _, _, _, _, h5⟩ := ho
    exact False.elim h5
  | goto l => exact False.elim ho
  | panic c => exact False.elim ho
  | outgrown => exact False.elim ho

theorem ACalls.mono {f : FuncId} {args : List Value} {H : List Blk} {R R' : Value → List Blk → Prop} (h : ACalls P f args H R) (hr : ∀ v H', R v H' → R' v H') : ACalls P f args H R' :=
  ⟨fun μ w cargs hv hrel => by
    obtain ⟨h1, h2⟩ := h.out μ w cargs hv hrel
    refine ⟨h1, h2.mono fun e w' hh => ?_⟩
    obtain ⟨v, cv, μ', H', he, h3, h4, h5, h6⟩ := hh
    exact ⟨v, cv, μ', H', he, h3, h4, h5, hr _ _ h6⟩⟩

end
end Go.Aw
