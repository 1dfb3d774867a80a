/-
  Code within a round of a range over a function: what holds of an operation in an activation of its own holds in a round's frame.
-/
import Derived.Test.YtmdiokmkokjpiaaGreatCore20
import Derived.CallsIn
import Derived.LoopNIn
import Derived.TacticsIn
import Derived.RangeFuncCalls
import Derived.RangeFuncRecord
set_option linter.all false
set_option linter.unusedVariables false
set_option linter.unusedSimpArgs false
set_option linter.unnecessarySimpa false
namespace Go.Aw
section
variable {P : Program} {T : Tab}

/-- The widest fence, in a round's frame or not. -/
abbrev wideR (r : Option Nat) : Fence := { Fence.wide with round := r }

def noDefer (o : Oper) : Bool := match o.op with | .defer _ => false | _ => true

theorem op_in {r : Option Nat} {n : Nat} {o : Oper} {a : Act} {w : World} {next : Act → World → Prop} {Q : Exit → Act → World → Prop} (hd : noDefer o = true)
    (h : o.wp P a w next Q) : o.wpIn (wideR r) n P a w next Q := by
  refine ⟨fun _ _ => trivial, ?_⟩
  have hs : o.semAt (wideR r).round a.eval = execOp a.eval o := Oper.semAt_eq r a.eval o (fun c hc => by simp [noDefer, hc] at hd)
  rw [hs]
  unfold Oper.wp at h
  generalize (execOp a.eval o).run P w = x at h
  cases x with
  | halt hh w' => cases hh <;> first | exact h | exact False.elim h
  | ok v w' =>
    cases v <;> try exact h
    case enter f args => exact ⟨fun hc => by simp [Fence.wide] at hc, (callsIn_wide.2 h : CallsIn Fence.wide (n - 1) P f args w' _)⟩
    case row row args => exact ⟨fun hc => by simp [Fence.wide] at hc, fun c cs _ => let ⟨v, w', r, s⟩ := h c cs; ⟨v, w', r, stepsIn_wide.2 s⟩⟩
    all_goals exact False.elim h

theorem op_mono {o : Oper} {a : Act} {w : World} {next next' : Act → World → Prop} {Q : Exit → Act → World → Prop} (hn : ∀ a w, next a w → next' a w)
    (h : o.wp P a w next Q) : o.wp P a w next' Q := by
  unfold Oper.wp at h ⊢
  generalize (execOp a.eval o).run P w = r at h
  cases r with
  | halt hh w' => cases hh <;> first | exact h | exact False.elim h
  | ok v w' =>
    cases v <;> try first | exact hn _ _ h | exact False.elim h
    case enter f args => exact Calls.mono h fun e w' hh => by cases e <;> first | exact hn _ _ hh | exact hh
    case row row args => exact Rows.mono h fun v w' hh => hn _ _ hh

theorem ops_in {r : Option Nat} {n : Nat} {ops : Array Oper} {Q : Exit → Act → World → Prop} (hQ : ¬ LetsOut Q) (hd : ops.toList.all noDefer = true) :
    ∀ (js : List Nat) (a : Act) (w : World), wpOps P ops Q js a w → wpOpsIn (wideR r) n P ops Q js a w
  | [], a, w, h => h
  | i :: rest, a, w, h => by
    unfold wpOps at h
    unfold wpOpsIn
    cases ho : ops[i]? with
    | none => simp only [ho] at h ⊢; exact ops_in hQ hd rest a w h
    | some o =>
      simp only [ho] at h ⊢
      split at h
      · rename_i hw
        rw [if_pos hw]
        rcases h with h | ⟨_, h⟩
        · exact op_in (List.all_eq_true.1 hd o (by simpa using Array.mem_of_getElem? ho)) (op_mono (fun a w h => ops_in hQ hd rest a w h) h)
        · exact absurd h hQ
      · rename_i hw
        rw [if_neg hw]
        exact ⟨fun _ _ => trivial, ops_in hQ hd rest _ w h⟩

/-- As 'Out', with 'ds' for the deferred calls. -/
def OutD (ds : List Deferred) (μ0 : List Nat) (H0 : List Blk) (w0 : World) (k : List Value → List Blk → Prop) (a : Act) (w : World) : Prop :=
  ∃ (μ : List Nat) (ts : List Value) (H : List Blk), SRs μ ts a.tmps.toList ∧ Rel μ H w ∧ Ext μ0 H0 w0 μ H w ∧ a.defers = ds ∧ k ts H
def OutXD (ds : List Deferred) (μ0 : List Nat) (H0 : List Blk) (w0 : World) (K : AK) : Exit → Act → World → Prop
  | .normal, a, w => OutD ds μ0 H0 w0 (K .normal) a w
  | .exit id, a, w => OutD ds μ0 H0 w0 (K (.exit id)) a w
  | .ret, a, w => OutD ds μ0 H0 w0 (K .ret) a w
  | _, _, _ => False
theorem OutD.trans {ds : List Deferred} {μ0 μ1 : List Nat} {H0 H1 : List Blk} {w0 w1 : World} (hl0 : H0.length = μ0.length) (hl1 : H1.length = μ1.length) (hx : Ext μ0 H0 w0 μ1 H1 w1) {k : List Value → List Blk → Prop} {a : Act} {w : World}
    (h : OutD ds μ1 H1 w1 k a w) : OutD ds μ0 H0 w0 k a w := by
  obtain ⟨μ, ts, H, h1, h2, h3, h4, h5⟩ := h
  exact ⟨μ, ts, H, h1, h2, hx.trans hl0 hl1 h3, h4, h5⟩
theorem OutXD.trans {ds : List Deferred} {μ0 μ1 : List Nat} {H0 H1 : List Blk} {w0 w1 : World} (hl0 : H0.length = μ0.length) (hl1 : H1.length = μ1.length) (hx : Ext μ0 H0 w0 μ1 H1 w1) {K : AK} (e : Exit) (a : Act) (w : World)
    (h : OutXD ds μ1 H1 w1 K e a w) : OutXD ds μ0 H0 w0 K e a w := by
  cases e <;> first | exact OutD.trans hl0 hl1 hx h | exact h
theorem of_atEndD {ds : List Deferred} {μ0 : List Nat} {H0 : List Blk} {w0 : World} {K : AK} (e : Exit) (a : Act) (w : World) (h : AtEnd (OutD ds μ0 H0 w0 (K .normal)) e a w) : OutXD ds μ0 H0 w0 K e a w := by
  cases e <;> first | exact h | exact False.elim h

theorem ops_soundD (hT : TabOk P T) {ds : List Deferred} {ops : Array Oper} (hok : ∀ o ∈ ops.toList, o.op.operands.toList.all opOk = true) {μ0 : List Nat} {H0 : List Blk} {w0 : World} {K : List Value → List Blk → Prop} (hl0 : H0.length = μ0.length) :
    ∀ (rest : List Oper) (n : Nat), ops.toList.drop n = rest → ∀ (μ : List Nat) (ts : List Value) (H : List Blk) (a : Act) (w : World), opsF P T ops.toList rest ts H K → SRs μ ts a.tmps.toList → Rel μ H w → Ext μ0 H0 w0 μ H w → a.defers = ds →
      wpOps P ops (AtEnd (OutD ds μ0 H0 w0 K)) (List.range' n rest.length) a w
  | [], n, hd, μ, ts, H, a, w, h, hv, hr, hx, hdef => ⟨μ, ts, H, hv, hr, hx, hdef, h⟩
  | o :: rest, n, hd, μ, ts, H, a, w, h, hv, hr, hx, hdef => by
    have hn : ops[n]? = some o := by
      have := congrArg (fun l => l[0]?) hd
      simp only [List.getElem?_drop, Nat.add_zero, List.getElem?_cons_zero] at this
      simpa using this
    have hd' : ops.toList.drop (n + 1) = rest := by
      have := congrArg (List.drop 1) hd
      simpa [List.drop_drop] using this
    have hoo : o.op.operands.toList.all opOk = true := hok o (by
      have : o ∈ ops.toList.drop n := by rw [hd]; exact List.mem_cons_self ..
      exact List.mem_of_mem_drop this)
    simp only [List.length_cons, List.range'_succ, wpOps, hn]
    unfold opsF at h
    rcases want_sound hv h with ⟨hw, h⟩ | ⟨hw, h⟩
    · rw [if_pos hw]
      left
      cases hq : quietOp o.op with
      | true =>
        simp only [hq] at h
        obtain ⟨v, cv, h, hvr, hrun⟩ := quietS_here hT o h hoo hv hr
        obtain ⟨ts', h, hv'⟩ := put_sound hv hvr h
        refine wp_value (ar := a) rfl hrun (ops_soundD hT hok hl0 rest (n + 1) hd' μ ts' H _ w h hv' hr hx ?_)
        unfold Act.put; cases o.dst <;> exact hdef
      | false =>
        simp only [hq] at h
        refine effect_sound hT o (ar := a) rfl h hoo hv hr ?_
        intro v cv μ' H' w' hvr hr' hx' h
        obtain ⟨ts', h, hv'⟩ := put_sound (hv.mono hx'.sub) hvr h
        refine ops_soundD hT hok hl0 rest (n + 1) hd' μ' ts' H' _ w' h hv' hr' (hx.trans hl0 hr.len hx') ?_
        unfold Act.put; cases o.dst <;> exact hdef
    · rw [if_neg (by simp [hw])]
      obtain ⟨ts', h, hv'⟩ := put_sound hv VR.undef h
      refine ops_soundD hT hok hl0 rest (n + 1) hd' μ ts' H _ w h hv' hr hx ?_
      unfold Act.put; cases o.dst <;> exact hdef

theorem not_lets {ds : List Deferred} {μ : List Nat} {H : List Blk} {w : World} {K : List Value → List Blk → Prop} : ¬ LetsOut (AtEnd (OutD ds μ H w K)) := fun ⟨_, _, h⟩ => h

/-- Code without defer, loops and drawn orders. -/
def plainC : Code → Bool
  | .skip => true
  | .region _ ops false => ops.toList.all noDefer
  | .seq x y => plainC x && plainC y
  | .cond _ x y => plainC x && plainC y
  | .block _ c => plainC c
  | .exit _ => true
  | .ret => true
  | _ => false

theorem code_in (hT : TabOk P T) (hs : Hints) {r : Option Nat} {n : Nat} {ds : List Deferred} : ∀ (c : Code) (K : AK) (ts : List Value) (H : List Blk), plainC c = true → codeOk T hs c = true → AWp P T hs c K ts H →
    ∀ (μ : List Nat) (a : Act) (w : World), SRs μ ts a.tmps.toList → Rel μ H w → a.defers = ds → c.wpIn (wideR r) n P (OutXD ds μ H w K) a w := by
  intro c
  induction c with
  | skip => intro K ts H _ _ h μ a w hv hr hd; exact wpIn_skip ⟨μ, ts, H, hv, hr, Ext.refl _ _ _, hd, h⟩
  | region id ops draw =>
    intro K ts H hp ho h μ a w hv hr hd
    cases draw with
    | false =>
      have hok : ∀ o ∈ ops.toList, o.op.operands.toList.all opOk = true := fun o hm => (List.all_eq_true.1 ho) o hm
      have := ops_soundD (ds := ds) (μ0 := μ) (H0 := H) (w0 := w) (K := K .normal) hT hok hr.len ops.toList 0 rfl μ ts H a w h hv hr (Ext.refl _ _ _) hd
      refine wpIn_mono (wpIn_region (id := id) (ops_in not_lets hp _ _ _ ?_)) fun e a w h => of_atEndD e a w h
      rw [List.range_eq_range']
      simpa using this
    | true => cases hp
  | seq x y ihx ihy =>
    intro K ts H hp ho h μ a w hv hr hd
    simp only [codeOk, Bool.and_eq_true] at ho
    simp only [plainC, Bool.and_eq_true] at hp
    refine wpIn_seq (wpIn_mono (ihx _ ts H hp.1 ho.1 h μ a w hv hr hd) fun e a1 w1 h1 => ?_)
    cases e with
    | normal =>
      obtain ⟨μ1, ts1, H1, hv1, hr1, hx1, hd1, h1⟩ := h1
      exact wpIn_mono (ihy K ts1 H1 hp.2 ho.2 h1 μ1 a1 w1 hv1 hr1 hd1) fun e a w h => OutXD.trans hr.len hr1.len hx1 e a w h
    | exit id => exact h1
    | ret => exact h1
    | goto l => exact h1
    | panic c => exact h1
    | outgrown => exact h1
  | cond c x y ihx ihy =>
    intro K ts H hp ho h μ a w hv hr hd
    simp only [codeOk, Bool.and_eq_true] at ho
    simp only [plainC, Bool.and_eq_true] at hp
    obtain ⟨v, h, hcv⟩ := ev_sound hv h ho.1.1
    obtain ⟨b, rfl⟩ : ∃ b, v = .bool b := by
      split at h
      · exact ⟨_, rfl⟩
      · exact False.elim h
    have hc : a.eval c = .bool b := by generalize a.eval c = z at hcv; cases hcv; rfl
    rcases bif_iff h with ⟨rfl, h⟩ | ⟨rfl, h⟩
    · exact wpIn_cond_true hc (ihx K ts H hp.1 ho.1.2 h μ a w hv hr hd)
    · exact wpIn_cond_false hc (ihy K ts H hp.2 ho.2 h μ a w hv hr hd)
  | block id c ih =>
    intro K ts H hp ho h μ a w hv hr hd
    refine wpIn_block (wpIn_mono (ih _ ts H hp ho h μ a w hv hr hd) fun e a1 w1 h1 => ?_)
    cases e with
    | normal => exact h1
    | exit j =>
      simp only [OutXD, Exit.inBlock] at h1 ⊢
      cases hj : Nat.beq j id with
      | true =>
        simp only [hj] at h1
        rw [if_pos (Nat.eq_of_beq_eq_true hj)]
        exact h1
      | false =>
        simp only [hj] at h1
        rw [if_neg (fun e => by rw [e] at hj; simp at hj)]
        exact h1
    | ret => exact h1
    | goto l => exact h1
    | panic c => exact h1
    | outgrown => exact h1
  | exit id => intro K ts H _ _ h μ a w hv hr hd; exact wpIn_exit ⟨μ, ts, H, hv, hr, Ext.refl _ _ _, hd, h⟩
  | ret => intro K ts H _ _ h μ a w hv hr hd; exact wpIn_ret ⟨μ, ts, H, hv, hr, Ext.refl _ _ _, hd, h⟩
  | _ => intro K ts H hp; simp [plainC] at hp
end
end Go.Aw
