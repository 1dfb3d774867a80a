/-
  A range over an iterator that is walked by hand: one round; the iterator's frame, with the function that is handed to it in some places.
-/
import Derived.Test.YtmdiokmkokjpiaaGreatCore31
set_option linter.all false
set_option linter.unusedVariables false
set_option linter.unusedSimpArgs false
set_option linter.unnecessarySimpa false
namespace Go.Aw
section
variable {P : Program} {T : Tab}

/-- What stands while the range goes on. -/
structure JR (μ : List Nat) (H : List Blk) (w : World) (rec : Loop) (HB : List Blk) (W : World) : Prop where
  rel : Rel μ HB W
  ext : Ext μ H w μ HB W
  loop : W.heap[w.heap.size + 1]? = some (.loop rec)
  def_ : W.heap[w.heap.size]? = some (.deferred (some []))
/-- What stands when it was left by a jump. -/
def JX (μ : List Nat) (H : List Blk) (w : World) (rec : Code → Loop) (KX : Code → List Blk → Prop) (W : World) : Prop :=
  ∃ c μ' H', KX c H' ∧ Rel μ' H' W ∧ Ext μ H w μ' H' W ∧ W.heap[w.heap.size + 1]? = some (.loop (rec c)) ∧ W.heap[w.heap.size]? = some (.deferred (some [])) ∧ w.heap.size ∉ μ' ∧ w.heap.size + 1 ∉ μ'

theorem yield_round (hT : TabOk P T) (hs : Hints) {p0 : Tmp} {asg body : Code} {a : Act} {w : World} {μ : List Nat} {ts : List Value} {H : List Blk} (hv : SRs μ ts a.tmps.toList) (hr : Rel μ H w) {fnn : FuncId} {rec : LoopState → Option Code → Loop}
    (hrec : rec = fun st pe => { state := st, pending := pe, fn := fnn, tmps := a.tmps, params := #[p0], assign := asg, body, defers := w.heap.size }) (hD : w.heap.size ∉ μ) (hL : w.heap.size + 1 ∉ μ)
    {W : World} {Hk HB : List Blk} {v : Value} (hlb : HB.length = H.length) (hvv : VR μ v v) {go : Prop} {KX : Code → List Blk → Prop} (hpa : plainC asg = true) (hpb : plainC body = true) (hoa : codeOk T hs asg = true) (hob : codeOk T hs body = true)
    (hround : AWp P T hs asg (fun e ts1 H1 => match e with | .normal => AWp P T hs body (KRound go Hk HB KX) ts1 H1 | _ => False) (ts.set p0 v) Hk) (hJ : JR μ H w (rec .ready none) Hk W) :
    YieldAt Fence.wide 0 P (w.heap.size + 1) #[v] W fun e W' => (e = .returned (.bool true) ∧ go ∧ JR μ H w (rec .ready none) HB W') ∨ (e = .returned (.bool false) ∧ JX μ H w (fun c => rec .done (some c)) KX W') := by
  obtain ⟨hR, hX, hl, hd⟩ := hJ
  have hlt : w.heap.size + 1 < W.heap.size := (Array.getElem?_eq_some_iff.1 hl).1
  have hy := run_yield (P := P) (args := #[v]) hl (by rw [hrec]; rfl)
  rw [hrec] at hy
  have hz : (#[p0].zip #[v]).foldl (fun tmps (t, a) => tmps.setIfInBounds t a) a.tmps = a.tmps.setIfInBounds p0 v := by simp
  dsimp only at hy
  rw [hz] at hy
  refine ⟨fnn, _, asg, body, hy, roundIn_of_wpIn trivial ?_⟩
  have hv0 : SRs μ (ts.set p0 v) (a.tmps.setIfInBounds p0 v).toList := by simpa using hv.set p0 hvv
  have h1 := code_in (P := P) (r := some (w.heap.size + 1)) (n := 0) (ds := []) hT hs asg _ _ Hk hpa hoa hround μ { tmps := a.tmps.setIfInBounds p0 v, defers := [] } W hv0 hR rfl
  refine wpIn_mono (F := wideR (some (w.heap.size + 1))) h1 ?_
  rintro e a1 Wa ho
  cases e with
  | normal =>
    obtain ⟨μ1, ts1, H1, hv1, hr1, hxa, hd1, hbody⟩ := ho
    have hDa : w.heap.size ∉ μ1 := not_mem_ext hxa (by omega) hD
    have hLa : w.heap.size + 1 ∉ μ1 := not_mem_ext hxa hlt hL
    have hla : Wa.heap[w.heap.size + 1]? = some (.loop (rec .ready none)) := (hxa.same _ hlt (not_own hL)).trans hl
    have hda : Wa.heap[w.heap.size]? = some (.deferred (some [])) := (hxa.same _ (by omega) (not_own hD)).trans hd
    have hlta : w.heap.size + 1 < Wa.heap.size := (Array.getElem?_eq_some_iff.1 hla).1
    refine ⟨_, run_beginRound hla (by rw [hrec]), ?_⟩
    obtain ⟨Wb, hWb⟩ : ∃ Wb, Wa.putObj (w.heap.size + 1) (.loop { rec .ready none with state := .busy }) = Wb := ⟨_, rfl⟩
    rw [hWb]
    have hrb : Rel μ1 H1 Wb := by rw [← hWb]; exact hr1.putObj hLa _
    have hxb : Ext μ H w μ1 H1 Wb := by rw [← hWb]; exact (hX.trans hr.len hR.len hxa).putObj (by omega) _
    have hlb' : Wb.heap[w.heap.size + 1]? = some (.loop { rec .ready none with state := .busy }) := by rw [← hWb]; exact World.putObj_heap_same hlta
    have hdb : Wb.heap[w.heap.size]? = some (.deferred (some [])) := by rw [← hWb]; exact (World.putObj_heap_other (by omega)).trans hda
    have hltb : w.heap.size + 1 < Wb.heap.size := (Array.getElem?_eq_some_iff.1 hlb').1
    have h2 := code_in (P := P) (r := some (w.heap.size + 1)) (n := 0) (ds := []) hT hs body _ _ H1 hpb hob hbody μ1 a1 Wb hv1 hrb hd1
    refine wpIn_mono (F := wideR (some (w.heap.size + 1))) h2 ?_
    have fin : ∀ (jump : Option Code) (μ3 : List Nat) (H3 : List Blk) (W3 : World), Rel μ3 H3 W3 → Ext μ1 H1 Wb μ3 H3 W3 →
        (Instr.endRound (w.heap.size + 1) jump).run P W3 = .ok (.bool jump.isNone) (W3.putObj (w.heap.size + 1) (.loop (rec (if jump.isNone then .ready else .done) jump))) ∧
        Rel μ3 H3 (W3.putObj (w.heap.size + 1) (.loop (rec (if jump.isNone then .ready else .done) jump))) ∧
        Ext μ H w μ3 H3 (W3.putObj (w.heap.size + 1) (.loop (rec (if jump.isNone then .ready else .done) jump))) ∧
        (W3.putObj (w.heap.size + 1) (.loop (rec (if jump.isNone then .ready else .done) jump))).heap[w.heap.size + 1]? = some (.loop (rec (if jump.isNone then .ready else .done) jump)) ∧
        (W3.putObj (w.heap.size + 1) (.loop (rec (if jump.isNone then .ready else .done) jump))).heap[w.heap.size]? = some (.deferred (some [])) ∧
        w.heap.size ∉ μ3 ∧ w.heap.size + 1 ∉ μ3 := fun jump μ3 H3 W3 hr3 hx3 => by
      have hl3 := (hx3.same _ hltb (not_own hLa)).trans hlb'
      have hd3 := (hx3.same _ (by omega) (not_own hDa)).trans hdb
      have hL3 := not_mem_ext hx3 hltb hLa
      have hD3 := not_mem_ext hx3 (by omega : w.heap.size < Wb.heap.size) hDa
      have he := run_endRound (P := P) jump hl3
      rw [hrec] at he
      exact ⟨by rw [hrec]; exact he, hr3.putObj hL3 _, (hxb.trans hr.len hr1.len hx3).putObj (by omega) _, World.putObj_heap_same (Array.getElem?_eq_some_iff.1 hl3).1, (World.putObj_heap_other (by omega)).trans hd3, hD3, hL3⟩
    rintro e a3 W3 ho3
    cases e with
    | normal =>
      obtain ⟨μ3, ts3, H3, hv3, hr3, hx3, _, hgo, ts4, hfade⟩ := ho3
      obtain ⟨he, hr4, hx4, hl4, hd4, _, _⟩ := fin none μ3 H3 W3 hr3 hx3
      have hxk : Ext μ Hk W μ3 H3 (W3.putObj (w.heap.size + 1) (.loop (rec .ready none))) := by
        refine hxa.trans hR.len hr1.len ⟨?_, ?_, ?_, ?_, ?_, ?_, hx3.own⟩
        · have := hx3.pre; rw [← hWb, World.putObj_size] at this; exact this
        · have := hx3.size; rw [← hWb, World.putObj_size] at this; rw [World.putObj_size]; exact this
        · have := hx3.os; rw [← hWb] at this; exact this
        · have := hx3.tape; rw [← hWb] at this; exact this
        · have := hx3.output; rw [← hWb] at this; exact this
        · intro b hb' hno
          by_cases hbl : b = w.heap.size + 1
          · subst hbl; rw [hla]; exact hl4
          · have e1 : Wb.heap[b]? = Wa.heap[b]? := by rw [← hWb]; exact World.putObj_heap_other hbl
            rw [World.putObj_heap_other hbl, hx3.same b (by rw [← hWb, World.putObj_size]; exact hb') hno, e1]
      obtain ⟨μ5, _, hr5, hx5⟩ := fade_sound hR hv3 hr4 hxk hfade
      have hμ5 : μ5 = μ := by
        obtain ⟨ext, rfl, _⟩ := hx5.pre
        have h5 := hr5.len
        rw [hlb, List.length_append, ← hr.len] at h5
        have : ext = [] := List.length_eq_zero_iff.1 (by omega)
        rw [this, List.append_nil]
      subst hμ5
      exact ⟨_, _, he, .inl ⟨rfl, hgo, ⟨hr5, hX.trans hr.len hR.len hx5, hl4, hd4⟩⟩⟩
    | ret =>
      obtain ⟨μ3, ts3, H3, hv3, hr3, hx3, _, hkx⟩ := ho3
      obtain ⟨he, hr4, hx4, hl4, hd4, hD4, hL4⟩ := fin (some .ret) μ3 H3 W3 hr3 hx3
      exact ⟨_, _, he, .inr ⟨rfl, .ret, μ3, H3, hkx, hr4, hx4, hl4, hd4, hD4, hL4⟩⟩
    | exit id =>
      obtain ⟨μ3, ts3, H3, hv3, hr3, hx3, _, hkx⟩ := ho3
      obtain ⟨he, hr4, hx4, hl4, hd4, hD4, hL4⟩ := fin (some (.exit id)) μ3 H3 W3 hr3 hx3
      exact ⟨_, _, he, .inr ⟨rfl, .exit id, μ3, H3, hkx, hr4, hx4, hl4, hd4, hD4, hL4⟩⟩
    | goto t => exact ho3.elim
    | panic ch => exact ho3.elim
    | outgrown => exact ho3.elim
  | exit id => obtain ⟨_, _, _, _, _, _, _, hk'⟩ := ho; exact hk'.elim
  | ret => obtain ⟨_, _, _, _, _, _, _, hk'⟩ := ho; exact hk'.elim
  | goto t => exact ho.elim
  | panic ch => exact ho.elim
  | outgrown => exact ho.elim

/-- From a frame that is so, with the function that is handed on in these places, the rest of the operations comes to 'Q'. -/
structure WY (P : Program) (ops : Array Oper) (μ : List Nat) (J : World → Prop) (l : Nat) (Q : Exit → Act → World → Prop) (L : List Nat) (ms : List Tmp) (ts : List Value) : Prop where
  out : ∀ (a : Act) (W : World), SRs μ ts a.tmps.toList → J W → a.defers = [] → (∀ m ∈ ms, a.tmps[m]? = some (.func (.yield l) #[] #[])) → wpOpsIn Fence.wide 0 P ops Q L a W

variable {ops : Array Oper} {μ : List Nat} {J : World → Prop} {l : Nat} {Q : Exit → Act → World → Prop} {L : List Nat} {ms : List Tmp} {ts : List Value} {H : List Blk} {i : Nat} {o : Oper}

theorem put_my {a : Act} {d : Option Tmp} {v : Value} (h : ∀ m ∈ ms, a.tmps[m]? = some (.func (.yield l) #[] #[])) (hd : ms.all (fun m => d != some m) = true) : ∀ m ∈ ms, (a.put d v).tmps[m]? = some (.func (.yield l) #[] #[]) := by
  intro m hm
  have hd' : d ≠ some m := by simpa using List.all_eq_true.1 hd m hm
  cases d with
  | none => exact h m hm
  | some d =>
    have : d ≠ m := fun e => hd' (by rw [e])
    simp only [Act.put]
    rw [Array.getElem?_setIfInBounds, if_neg this]; exact h m hm

/-- A quiet operation. -/
theorem wy_quiet (hT : TabOk P T) (hJ : ∀ W, J W → Rel μ H W) (hi : ops[i]? = some o) (hq : quietOp o.op = true) (hd : ms.all (fun m => o.dst != some m) = true) (hok : o.op.operands.toList.all opOk = true)
    (h : wantF ops.toList ts o.guard (fun _ => quietS T H ts o.op fun v => putDst ts o.dst v fun ts => WY P ops μ J l Q L ms ts) (fun _ => putDst ts o.dst undef fun ts => WY P ops μ J l Q L ms ts)) : WY P ops μ J l Q (i :: L) ms ts := by
  refine ⟨fun a W hv hj hdef hms => ?_⟩
  unfold wpOpsIn
  simp only [hi]
  rcases want_sound hv h with ⟨hw, h⟩ | ⟨hw, h⟩
  · rw [if_pos hw]
    obtain ⟨v, cv, h, hvr, hrun⟩ := quietS_here hT o h hok hv (hJ W hj)
    obtain ⟨ts', h, hv'⟩ := put_sound hv hvr h
    refine op_in (r := none) ?_ (wp_value (ar := a) rfl hrun (h.out _ W hv' hj (put_defers hdef) (put_my hms hd)))
    unfold noDefer
    split
    · rename_i heq; rw [heq] at hq; simp [quietOp] at hq
    · rfl
  · rw [if_neg (by simp [hw])]
    obtain ⟨ts', h, hv'⟩ := put_sound hv VR.undef h
    exact ⟨fun _ _ => trivial, h.out _ W hv' hj (put_defers hdef) (put_my hms hd)⟩

/-- An operation that is not wanted. -/
theorem wy_skip (hi : ops[i]? = some o) (hd : ms.all (fun m => o.dst != some m) = true) (h : wantF ops.toList ts o.guard (fun _ => False) (fun _ => putDst ts o.dst undef fun ts => WY P ops μ J l Q L ms ts)) : WY P ops μ J l Q (i :: L) ms ts := by
  refine ⟨fun a W hv hj hdef hms => ?_⟩
  unfold wpOpsIn
  simp only [hi]
  rcases want_sound hv h with ⟨_, h⟩ | ⟨hw, h⟩
  · exact h.elim
  · rw [if_neg (by simp [hw])]
    obtain ⟨ts', h, hv'⟩ := put_sound hv VR.undef h
    exact ⟨fun _ _ => trivial, h.out _ W hv' hj (put_defers hdef) (put_my hms hd)⟩

/-- The function is handed on, if it is wanted. -/
theorem wy_move (hi : ops[i]? = some o) {m d : Tmp} (ho : o.op = .move (.tmp m)) (hdst : o.dst = some d) (hm : m ∈ ms) (hdl : d < ts.length) (hnd : ms.all (fun m => d != m) = true)
    (h : wantF ops.toList ts o.guard (fun _ => WY P ops μ J l Q L (d :: ms) (ts.set d junk)) (fun _ => putDst ts o.dst undef fun ts => WY P ops μ J l Q L ms ts)) : WY P ops μ J l Q (i :: L) ms ts := by
  refine ⟨fun a W hv hj hdef hms => ?_⟩
  unfold wpOpsIn
  simp only [hi]
  have hnd' : ms.all (fun m => o.dst != some m) = true := by
    rw [hdst]
    refine List.all_eq_true.2 fun x hx => ?_
    have := List.all_eq_true.1 hnd x hx
    simpa using this
  rcases want_sound hv h with ⟨hw, h⟩ | ⟨hw, h⟩
  · rw [if_pos hw]
    have hev : a.eval (.tmp m) = .func (.yield l) #[] #[] := by simp [Act.eval, hms m hm]
    have h1 : ts.length = a.tmps.size := by simpa using hv.1
    have hdl' : d < a.tmps.size := Nat.lt_of_lt_of_eq hdl h1
    refine op_in (r := none) (by unfold noDefer; rw [ho]) (wp_value (ar := a) rfl (cv := .func (.yield l) #[] #[]) (w' := W) (by
      obtain ⟨dst, op, type, pos, after, guard⟩ := o
      simp only at ho
      subst ho
      simp [execOp, hev]) ?_)
    rw [hdst]
    refine h.out _ W ?_ hj (put_defers hdef) ?_
    · have hset : SRs μ (ts.set d junk) (a.tmps.toList.set d (.func (.yield l) #[] #[])) := by
        refine ⟨by simp [hv.1], fun j x y hx hy => ?_⟩
        rw [List.getElem?_set] at hx hy
        by_cases hj : d = j
        · rw [if_pos hj] at hx hy
          rw [if_pos hdl] at hx
          cases hx; exact .inl rfl
        · rw [if_neg hj] at hx hy; exact hv.2 j x y hx hy
      simpa [Act.put] using hset
    · intro x hx
      simp only [Act.put]
      rcases List.mem_cons.1 hx with rfl | hx
      · rw [Array.getElem?_setIfInBounds, if_pos rfl, if_pos hdl']
      · rw [Array.getElem?_setIfInBounds]
        split
        · rename_i e; subst e; first | rfl | (rw [if_pos hdl'])
        · exact hms x hx
  · rw [if_neg (by simp [hw])]
    obtain ⟨ts', h, hv'⟩ := put_sound hv VR.undef h
    exact ⟨fun _ _ => trivial, h.out _ W hv' hj (put_defers hdef) (put_my hms hnd')⟩

/-- The function is called. -/
theorem wy_call {m x d : Tmp} {ta : Array TypeId} {v : Value} {R : Ending → World → Prop} (hi : ops[i]? = some o) (ho : o.op = .call ⟨.value (.tmp m), #[.tmp x], ta⟩) (hdst : o.dst = some d) (hm : m ∈ ms) (hx : ts[x]? = some v) (hv0 : v ≠ junk) (hvc : ∀ cv, VR μ v cv → cv = v)
    (hnd : ms.all (fun m => o.dst != some m) = true) (hy : ∀ W, J W → YieldAt Fence.wide 0 P l #[v] W R) (hwant : wantF ops.toList ts o.guard (fun _ => True) (fun _ => False))
    (h : ∀ e W', R e W' → ∃ b, e = .returned (.bool b) ∧ ∀ (a : Act), SRs μ (ts.set d (.bool b)) a.tmps.toList → a.defers = [] → (∀ m ∈ ms, a.tmps[m]? = some (.func (.yield l) #[] #[])) → wpOpsIn Fence.wide 0 P ops Q L a W') : WY P ops μ J l Q (i :: L) ms ts := by
  refine ⟨fun a W hv hj hdef hms => ?_⟩
  unfold wpOpsIn
  simp only [hi]
  rcases want_sound hv hwant with ⟨hw, _⟩ | ⟨_, hf⟩
  · rw [if_pos hw]
    obtain ⟨cv, hcv, hsr⟩ := hv.get hx
    have hcv2 := hvc cv (hsr.resolve_left hv0)
    subst hcv2
    have hev : a.eval (.tmp m) = .func (.yield l) #[] #[] := by simp [Act.eval, hms m hm]
    have hex : a.eval (.tmp x) = cv := by
      have : a.tmps[x]? = some cv := by simpa using hcv
      simp [Act.eval, this]
    obtain ⟨fn', tmps', asg', body', hyr, hR⟩ := hy W hj
    have hrun : (execOp a.eval o).run P W = .ok (.round l fn' tmps' asg' body') W := by
      obtain ⟨dst, op, type, pos, after, guard⟩ := o
      simp only at ho
      subst ho
      simp [execOp, hev, hex, resolve, Deferred.ofValue, Sem.run_bind, invoke, hyr]
    refine ⟨fun _ _ => trivial, ?_⟩
    show o.uponIn Fence.wide 0 P a _ Q ((execOp a.eval o).run P W)
    rw [hrun]
    refine ⟨fun hx => by simp [Fence.wide] at hx, RoundIn.mono' hR fun e w'' hr => ?_⟩
    obtain ⟨b, rfl, hk⟩ := h e w'' hr
    rw [hdst]
    exact hk _ (by simpa [Act.put] using hv.set d (.bool b)) (put_defers hdef) (by rw [← hdst]; exact put_my hms hnd)
  · exact hf.elim
end
end Go.Aw
