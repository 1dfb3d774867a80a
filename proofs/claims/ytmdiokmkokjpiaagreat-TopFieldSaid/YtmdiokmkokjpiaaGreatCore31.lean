/-
  Straight code with one map in it, made and read within the function.
-/
import Derived.Test.YtmdiokmkokjpiaaGreatCore30
import Derived.Carry
import Derived.MapKept
set_option linter.all false
set_option linter.unusedVariables false
set_option linter.unusedSimpArgs false
set_option linter.unnecessarySimpa false
namespace Go.Aw
section
variable {P : Program} {T : Tab}

/-- The map at 'b' holds these keys, with values that stand for these. -/
def MapAt (kd : IntKind) (μ : List Nat) (b : Nat) (M : List (Int × Value)) (w : World) : Prop :=
  b ∉ μ ∧ ∃ (es : Array MapEntry) (clk : Nat), w.heap[b]? = some (.map es clk) ∧ es.toList.length = M.length ∧
    ∀ (i : Nat) (e : MapEntry) (m : Int × Value), es.toList[i]? = some e → M[i]? = some m → e.key = .int kd m.1 ∧ VR μ m.2 e.val

theorem MapAt.ext {kd : IntKind} {μ μ' : List Nat} {H H' : List Blk} {w w' : World} {b : Nat} {M : List (Int × Value)} (h : MapAt kd μ b M w) (hx : Ext μ H w μ' H' w') : MapAt kd μ' b M w' := by
  obtain ⟨hn, es, clk, hb, hl, hk⟩ := h
  have hlt := (Array.getElem?_eq_some_iff.1 hb).1
  exact ⟨not_mem_ext hx hlt hn, es, clk, (hx.same _ hlt (not_own hn)).trans hb, hl, fun i e m he hm => ⟨(hk i e m he hm).1, (hk i e m he hm).2.mono hx.sub⟩⟩

/-- From a frame and a heap that are so, with the map's pointer in these places, the rest of the operations comes to 'Q'. -/
structure WM (P : Program) (kd : IntKind) (ops : Array Oper) (μ0 : List Nat) (H0 : List Blk) (w0 : World) (Q : Exit → Act → World → Prop) (L : List Nat) (ms : List Tmp) (M : List (Int × Value)) (ts : List Value) (H : List Blk) : Prop where
  out : ∀ (μ : List Nat) (a : Act) (w : World) (b : Nat), SRs μ ts a.tmps.toList → Rel μ H w → Ext μ0 H0 w0 μ H w → a.defers = [] → w0.heap.size ≤ b → MapAt kd μ b M w → (∀ m ∈ ms, a.tmps[m]? = some (.map (some b))) → wpOps P ops Q L a w

variable {kd : IntKind} {ops : Array Oper} {μ0 : List Nat} {H0 : List Blk} {w0 : World} {Q : Exit → Act → World → Prop} {L : List Nat} {ms : List Tmp} {M : List (Int × Value)} {ts : List Value} {H : List Blk} {i : Nat} {o : Oper}

theorem put_ms {a : Act} {b : Nat} {d : Option Tmp} {v : Value} (h : ∀ m ∈ ms, a.tmps[m]? = some (.map (some b))) (hd : ∀ m ∈ ms, d ≠ some m) : ∀ m ∈ ms, (a.put d v).tmps[m]? = some (.map (some b)) := by
  intro m hm
  cases d with
  | none => exact h m hm
  | some d =>
    have : d ≠ m := fun e => hd m hm (by rw [e])
    simp only [Act.put]
    rw [Array.getElem?_setIfInBounds, if_neg this]; exact h m hm

theorem put_defers {a : Act} {d : Option Tmp} {v : Value} (h : a.defers = []) : (a.put d v).defers = [] := by
  unfold Act.put; cases d <;> exact h

theorem wm_step (hT : TabOk P T) (hi : ops[i]? = some o) (hg : o.guard = none) (hd : ms.all (fun m => o.dst != some m) = true) (hok : o.op.operands.toList.all opOk = true) (hl0 : H0.length = μ0.length)
    (h : match quietOp o.op with
      | true => quietS T H ts o.op fun v => putDst ts o.dst v fun ts => WM P kd ops μ0 H0 w0 Q L ms M ts H
      | false => effectF P T H ts o.op fun v H => putDst ts o.dst v fun ts => WM P kd ops μ0 H0 w0 Q L ms M ts H) : WM P kd ops μ0 H0 w0 Q (i :: L) ms M ts H := by
  refine ⟨fun μ a w b hv hr hx hdef hb hm hms => ?_⟩
  have hd' : ∀ m ∈ ms, o.dst ≠ some m := fun m hm => by simpa using List.all_eq_true.1 hd m hm
  unfold wpOps
  simp only [hi]
  rw [if_pos (by simp [Region.wanted, hg])]
  left
  cases hq : quietOp o.op with
  | true =>
    simp only [hq] at h
    obtain ⟨v, cv, h, hvr, hrun⟩ := quietS_here hT o h hok hv hr
    obtain ⟨ts', h, hv'⟩ := put_sound hv hvr h
    exact wp_value (ar := a) rfl hrun (h.out μ _ w b hv' hr hx (put_defers hdef) hb hm (put_ms hms hd'))
  | false =>
    simp only [hq] at h
    refine effect_sound hT o (ar := a) rfl h hok hv hr ?_
    intro v cv μ' H' w' hvr hr' hx' h
    obtain ⟨ts', h, hv'⟩ := put_sound (hv.mono hx'.sub) hvr h
    exact h.out μ' _ w' b hv' hr' (hx.trans hl0 hr.len hx') (put_defers hdef) hb (hm.ext hx') (put_ms hms hd')

/-- The map's pointer is handed on. -/
theorem wm_move (hi : ops[i]? = some o) (hg : o.guard = none) {m d : Tmp} (ho : o.op = .move (.tmp m) ∨ o.op = .assign (.tmp m)) (hdst : o.dst = some d) (hm : m ∈ ms) (hdl : d < ts.length)
    (h : WM P kd ops μ0 H0 w0 Q L (d :: ms) M (ts.set d junk) H) : WM P kd ops μ0 H0 w0 Q (i :: L) ms M ts H := by
  refine ⟨fun μ a w b hv hr hx hdef hb hmap hms => ?_⟩
  unfold wpOps
  simp only [hi]
  rw [if_pos (by simp [Region.wanted, hg])]
  left
  have hev : a.eval (.tmp m) = .map (some b) := by simp [Act.eval, hms m hm]
  have hrun : (execOp a.eval o).run P w = .ok (.value (.map (some b))) w := by
    obtain ⟨dst, op, type, pos, after, guard⟩ := o
    simp only at ho
    rcases ho with rfl | rfl <;> simp [execOp, hev]
  refine wp_value (ar := a) rfl hrun ?_
  rw [hdst]
  have h1 : ts.length = a.tmps.size := by simpa using hv.1
  have hdl' : d < a.tmps.size := Nat.lt_of_lt_of_eq hdl h1
  refine h.out μ _ w b ?_ hr hx (put_defers hdef) hb hmap ?_
  · have hset : SRs μ (ts.set d junk) (a.tmps.toList.set d (.map (some b))) := by
      refine ⟨by simp [hv.1], fun j x y hx hy => ?_⟩
      rw [List.getElem?_set] at hx hy
      by_cases hj : d = j
      · rw [if_pos hj] at hx hy
        rw [if_pos hdl] at hx
        cases hx; exact .inl rfl
      · rw [if_neg hj] at hx hy; exact hv.2 j x y hx hy
    simpa [Act.put] using hset
  · intro m' hm'
    simp only [Act.put]
    rcases List.mem_cons.1 hm' with rfl | hm'
    · rw [Array.getElem?_setIfInBounds, if_pos rfl, if_pos hdl']
    · rw [Array.getElem?_setIfInBounds]
      split
      · rename_i e; subst e; first | rfl | (rw [if_pos hdl'])
      · exact hms m' hm'

theorem findNow_int {kd : IntKind} {k : Int} : ∀ (es : List MapEntry) (M : List (Int × Value)) (n : Nat), es.length = M.length → (∀ (i : Nat) (e : MapEntry) (m : Int × Value), es[i]? = some e → M[i]? = some m → e.key = .int kd m.1) →
    (Instr.findNow (.int kd) (.int kd k) es n = some none ∧ ∀ m ∈ M, k ≠ m.1) ∨ (∃ (j : Nat) (e : MapEntry) (m : Int × Value), Instr.findNow (.int kd) (.int kd k) es n = some (some (n + j, e.val)) ∧ es[j]? = some e ∧ M[j]? = some m ∧ m.1 = k ∧ ∀ j' m', j' < j → M[j']? = some m' → k ≠ m'.1)
  | [], [], n, _, _ => .inl ⟨rfl, fun m hm => by cases hm⟩
  | e :: es, m :: M, n, hl, hk => by
    have h0 := hk 0 e m rfl rfl
    unfold Instr.findNow
    rw [h0]
    simp only [Instr.sameNow, if_true]
    by_cases h : k = m.1
    · right
      refine ⟨0, e, m, ?_, rfl, rfl, h.symm, fun j' m' hj => absurd hj (Nat.not_lt_zero _)⟩
      rw [show (k == m.1) = true from by simp [h]]
      rfl
    · rw [show (k == m.1) = false from by simpa using h]
      rcases findNow_int es M (n + 1) (by simpa using hl) (fun i e' m' he hm => hk (i + 1) e' m' he hm) with ⟨h1, h2⟩ | ⟨j, e', m', h1, h2, h3, h4, h5⟩
      · exact .inl ⟨h1, fun x hx => (List.mem_cons.1 hx).elim (fun hx => by rw [hx]; exact h) (h2 x)⟩
      · right
        refine ⟨j + 1, e', m', by rw [h1, show n + 1 + j = n + (j + 1) by omega], h2, h3, h4, fun j' x hj hx => ?_⟩
        cases j' with
        | zero => cases hx; exact h
        | succ j' => exact h5 j' x (by omega) hx
  | [], _ :: _, _, h, _ => by cases h
  | _ :: _, [], _, h, _ => by cases h

theorem getObj_m {w : World} {r : Nat} {es : Array MapEntry} {clock : Nat} (hb : w.heap[r]? = some (.map es clock)) : (getObj r).run P w = .ok (.map es clock) w := by
  simp [getObj, Sem.run, hb]
theorem setObj_m {w : World} {r : Nat} {es : Array MapEntry} {clock : Nat} (o : Obj) (hb : w.heap[r]? = some (.map es clock)) : (setObj r o).run P w = .ok () { w with heap := w.heap.setIfInBounds r o } := by
  simp [setObj, Sem.run, hb]
theorem checkKey_int {kt : TypeId} {q : IntKind} (hd : ∀ w, (underlying kt).run P w = .ok (.int q) w) (e : Bool) (v : Value) (w : World) : (Instr.checkKey e 10000 kt v).run P w = .ok () w := by
  unfold Instr.checkKey
  simp [hd]

theorem findKey_none {kt : TypeId} {k : Int} (hd : ∀ w, (underlying kt).run P w = .ok (.int kd) w) {es : List MapEntry} (h : Instr.findNow (.int kd) (.int kd k) es 0 = some none) (w : World) : (Instr.findKey kt (.int kd k) es).run P w = .ok none w := by
  unfold Instr.findKey
  simp [hd, h]
theorem findKey_some {kt : TypeId} {k : Int} (hd : ∀ w, (underlying kt).run P w = .ok (.int kd) w) {es : List MapEntry} {r : Nat × Value} (h : Instr.findNow (.int kd) (.int kd k) es 0 = some (some r)) (w : World) : (Instr.findKey kt (.int kd k) es).run P w = .ok (some r) w := by
  unfold Instr.findKey
  simp [hd, h]

/-- A new key. -/
theorem wm_insert {t kt et : TypeId} {m x : Tmp} {k : Int} {v : Value} (hi : ops[i]? = some o) (hg : o.guard = none) (ho : o.op = .insert t (.tmp m) (.const (.int kd k)) (.tmp x)) (hdst : o.dst = none)
    (ht : ∀ w, (underlying t).run P w = .ok (.map kt et) w) (hk : ∀ w, (underlying kt).run P w = .ok (.int kd) w) (hm : m ∈ ms) (hx : ts[x]? = some v) (hv0 : v ≠ junk) (hfr : ∀ e ∈ M, k ≠ e.1) (hl0 : H0.length = μ0.length)
    (h : WM P kd ops μ0 H0 w0 Q L ms (M ++ [(k, v)]) ts H) : WM P kd ops μ0 H0 w0 Q (i :: L) ms M ts H := by
  refine ⟨fun μ a w b hv hr hxt hdef hb hmap hms => ?_⟩
  unfold wpOps
  simp only [hi]
  rw [if_pos (by simp [Region.wanted, hg])]
  left
  obtain ⟨hn, es, clk, hbw, hl, hke⟩ := hmap
  have hlt := (Array.getElem?_eq_some_iff.1 hbw).1
  obtain ⟨cv, hcv, hsr⟩ := hv.get hx
  have hvr := hsr.resolve_left hv0
  have hev : a.eval (.tmp m) = .map (some b) := by simp [Act.eval, hms m hm]
  have hex : a.eval (.tmp x) = cv := by
    have : a.tmps[x]? = some cv := by simpa using hcv
    simp [Act.eval, this]
  have hfn : Instr.findNow (.int kd) (.int kd k) es.toList 0 = some none := by
    rcases findNow_int (k := k) es.toList M 0 hl (fun i e m he hm => (hke i e m he hm).1) with ⟨h1, _⟩ | ⟨j, e, m', _, _, h3, h4, _⟩
    · exact h1
    · exact absurd h4.symm (hfr m' (List.mem_of_getElem? h3))
  have hrun : (Instr.mapUpdate t (.map (some b)) (.int kd k) cv).run P w = .ok () (w.putObj b (.map (es.push { key := .int kd k, val := cv, born := clk }) (clk + 1))) := by
    unfold Instr.mapUpdate
    simp [ht, getObj_m hbw, checkKey_int hk, findKey_none hk hfn, setObj_m _ hbw, World.putObj]
  refine wp_skipped (ar := a) rfl (w' := w.putObj b (.map (es.push { key := .int kd k, val := cv, born := clk }) (clk + 1))) (by
    obtain ⟨dst, op, type, pos, after, guard⟩ := o
    simp only at ho
    subst ho
    have hec : a.eval (.const (.int kd k)) = .int kd k := rfl
    simp [execOp, hev, hex, hec, hrun]) ?_
  rw [hdst]
  refine h.out μ _ _ b hv (hr.putObj hn _) (hxt.putObj hb _) hdef hb ⟨hn, _, _, World.putObj_heap_same hlt, by simp [hl], fun j e m' he hm' => ?_⟩ hms
  simp only [Array.toList_push] at he
  by_cases hj : j < M.length
  · rw [List.getElem?_append_left (by omega)] at he
    rw [List.getElem?_append_left hj] at hm'
    exact hke j e m' he hm'
  · rw [List.getElem?_append_right (by omega)] at he
    rw [List.getElem?_append_right (by omega)] at hm'
    have hj0 : j - M.length = 0 := by
      have := (List.getElem?_eq_some_iff.1 hm').1
      simp at this; omega
    rw [hl, hj0] at he
    rw [hj0] at hm'
    cases he; cases hm'
    exact ⟨rfl, hvr⟩

/-- A key is looked up. -/
theorem wm_lookup {t kt et : TypeId} {m x d : Tmp} {k : Int} {z : Value} (hi : ops[i]? = some o) (hg : o.guard = none) (ho : o.op = .lookup t (.tmp m) (.tmp x) false) (hdst : o.dst = some d)
    (ht : ∀ w, (underlying t).run P w = .ok (.map kt et) w) (hk : ∀ w, (underlying kt).run P w = .ok (.int kd) w) (hz : ∀ w, (zeroValue et).run P w = .ok z w) (hzv : ∀ μ, VR μ z z) (hm : m ∈ ms) (hx : ts[x]? = some (.int kd k)) (hdm : ms.all (fun m => d != m) = true)
    (h : ∀ v, ((∃ (j : Nat), M[j]? = some (k, v) ∧ ∀ (j' : Nat) (m' : Int × Value), j' < j → M[j']? = some m' → k ≠ m'.1) ∨ (v = z ∧ ∀ e ∈ M, k ≠ e.1)) → WM P kd ops μ0 H0 w0 Q L ms M (ts.set d v) H) : WM P kd ops μ0 H0 w0 Q (i :: L) ms M ts H := by
  refine ⟨fun μ a w b hv hr hxt hdef hb hmap hms => ?_⟩
  unfold wpOps
  simp only [hi]
  rw [if_pos (by simp [Region.wanted, hg])]
  left
  obtain ⟨hn, es, clk, hbw, hl, hke⟩ := hmap
  obtain ⟨cx, hcx, hsr⟩ := hv.get hx
  have hxr := hsr.resolve_left (by simp [junk])
  have hex : a.eval (.tmp x) = .int kd k := by
    have : a.tmps[x]? = some cx := by simpa using hcx
    cases hxr
    simp [Act.eval, this]
  have hev : a.eval (.tmp m) = .map (some b) := by simp [Act.eval, hms m hm]
  have fin : ∀ (v cv : Value), VR μ v cv → (execOp a.eval o).run P w = .ok (.value cv) w → WM P kd ops μ0 H0 w0 Q L ms M (ts.set d v) H → o.wp P a w (wpOps P ops Q L) Q := fun v cv hvr hrun hW => by
    refine wp_value (ar := a) rfl hrun ?_
    rw [hdst]
    exact hW.out μ _ w b (by simpa [Act.put] using hv.set d hvr) hr hxt (put_defers hdef) hb ⟨hn, es, clk, hbw, hl, hke⟩ (put_ms hms fun m hm e => by
      have := List.all_eq_true.1 hdm m hm
      cases e
      simp at this)
  have exec : ∀ cv, (Instr.lookup t (.map (some b)) (.int kd k) false).run P w = .ok cv w → (execOp a.eval o).run P w = .ok (.value cv) w := fun cv hr => by
    obtain ⟨dst, op, type, pos, after, guard⟩ := o
    simp only at ho
    subst ho
    simp [execOp, hev, hex, hr]
  rcases findNow_int (k := k) es.toList M 0 hl (fun i e m he hm => (hke i e m he hm).1) with ⟨h1, h2⟩ | ⟨j, e, m', h1, h2, h3, h4, h5⟩
  · refine fin z z (hzv μ) (exec z ?_) (h z (.inr ⟨rfl, h2⟩))
    unfold Instr.lookup
    simp [ht, getObj_m hbw, checkKey_int hk, findKey_none hk h1, hz]
  · have hvr := (hke j e m' h2 h3).2
    refine fin m'.2 e.val hvr (exec e.val ?_) (h m'.2 (.inl ⟨j, by rw [h3, ← h4], h5⟩))
    unfold Instr.lookup
    simp [ht, getObj_m hbw, checkKey_int hk, findKey_some hk h1]

/-- The map is made. -/
theorem wm_make {t : TypeId} {d : Tmp} (hi : ops[i]? = some o) (hg : o.guard = none) (ho : o.op = .makeMap t none) (hdst : o.dst = some d) {μ : List Nat} {a : Act} {w : World} (hv : SRs μ ts a.tmps.toList) (hr : Rel μ H w) (hx : Ext μ0 H0 w0 μ H w) (hdef : a.defers = []) (hl0 : H0.length = μ0.length) (hdl : d < ts.length)
    (h : WM P kd ops μ0 H0 w0 Q L [d] [] (ts.set d junk) H) : wpOps P ops Q (i :: L) a w := by
  unfold wpOps
  simp only [hi]
  rw [if_pos (by simp [Region.wanted, hg])]
  left
  obtain ⟨hr', hx'⟩ := hr.bigger (.map #[] 0)
  have h1 : ts.length = a.tmps.size := by simpa using hv.1
  have hdl' : d < a.tmps.size := Nat.lt_of_lt_of_eq hdl h1
  refine wp_value (ar := a) rfl (w' := w.alloc (.map #[] 0)) (cv := .map (some w.heap.size)) (by
    obtain ⟨dst, op, type, pos, after, guard⟩ := o
    simp only at ho
    subst ho
    simp [execOp, Instr.makeMap]) ?_
  rw [hdst]
  refine h.out μ _ _ w.heap.size ?_ hr' (hx.trans hl0 hr.len hx') (put_defers hdef) (by have := hx.size; omega) ⟨fun hm => Nat.lt_irrefl _ (hr.lt _ hm), #[], 0, World.alloc_heap_new w _, rfl, fun i e m he hm => by cases hm⟩ ?_
  · have hset : SRs μ (ts.set d junk) (a.tmps.toList.set d (.map (some w.heap.size))) := by
      refine ⟨by simp [hv.1], fun j x y hx hy => ?_⟩
      rw [List.getElem?_set] at hx hy
      by_cases hj : d = j
      · rw [if_pos hj] at hx hy
        rw [if_pos hdl] at hx
        cases hx; exact .inl rfl
      · rw [if_neg hj] at hx hy; exact hv.2 j x y hx hy
    simpa [Act.put] using hset
  · intro m hm
    rcases List.mem_cons.1 hm with rfl | hm
    · simp only [Act.put]
      rw [Array.getElem?_setIfInBounds, if_pos rfl, if_pos hdl']
    · cases hm

/-- From the code's run, told by hand. -/
theorem ACalls.introW {f : FuncId} {fn : Func} {c : Code} {args : List Value} {H : List Blk} {R : Value → List Blk → Prop} (hT : TabOk P T) (hf : P.funcs[f]? = some fn) (hb : fn.body = some c)
    (hcall : ∀ (args : Array Value) (w : World), (callFunc f args).run P w = .ok (.enter f args) w)
    (h : ∀ (μ : List Nat) (a : Act) (w : World), SRs μ (args ++ List.replicate (fn.ntmps - args.length) undef) a.tmps.toList → Rel μ H w → a.defers = [] → c.wp P (OutX μ H w (postF T fn.results.toList R)) a w) : ACalls P f args H R := by
  refine ⟨fun μ w cargs hv hr => ⟨hcall _ _, calls_of_wp hf hb ?_⟩⟩
  have hv' : VRs μ (args ++ List.replicate (fn.ntmps - args.length) undef) ((cargs.toArray ++ Array.replicate (fn.ntmps - cargs.toArray.size) undef).toList) := by
    simp only [Array.toList_append, Array.toList_replicate, List.size_toArray]
    rw [hv.1]
    exact hv.append (VRs.replicate _ VR.undef)
  refine wp_mono (h μ _ w hv'.sr hr rfl) fun e a w' ho => ?_
  have fin : ∀ {e : Ex}, (∀ id, e ≠ .exit id) → Out μ H w (postF T fn.results.toList R e) a w' → a.defers = [] ∧ ∃ v, (results fn a.tmps).run P w' = .ok v w' ∧ ∃ (v' cv : Value) (μ' : List Nat) (H' : List Blk), Ending.returned v = .returned cv ∧ VR μ' v' cv ∧ Rel μ' H' w' ∧ Ext μ H w μ' H' w' ∧ R v' H' := fun {e} he ho => by
    obtain ⟨μ1, ts1, H1, hv1, hr1, hx1, hd1, h1⟩ := ho
    have h2 : resF T H1 ts1 fn.results.toList fun vs => match vs with | [v] => R v H1 | vs => R (.tuple vs.toArray) H1 := by
      cases e with
      | exit id => exact absurd rfl (he id)
      | normal => exact h1
      | ret => exact h1
    obtain ⟨vs, cvs, hk, hvs, hrun⟩ := res_sound hT hv1 hr1 _ h2
    refine ⟨hd1, ?_⟩
    have hm : (fn.results.mapM (resStep a.tmps)).run P w' = .ok cvs.toArray w' := by
      rw [Array.mapM_eq_mapM_toList]
      simp [hrun]
    cases vs with
    | nil =>
      have hc0 : cvs = [] := by have := hvs.1; simpa using this.symm
      subst hc0
      exact ⟨.tuple #[], by rw [results_eq]; simp [hm], _, _, μ1, H1, rfl, VR.tups VRs.nil, hr1, hx1, hk⟩
    | cons v vs =>
      cases cvs with
      | nil => exact absurd hvs.1 (by simp)
      | cons cv cvs =>
        cases vs with
        | nil =>
          have hc0 : cvs = [] := by have := hvs.1; simpa using this.symm
          subst hc0
          exact ⟨cv, by rw [results_eq]; simp [hm], _, _, μ1, H1, rfl, hvs.2 0 _ _ rfl rfl, hr1, hx1, hk⟩
        | cons v2 vs =>
          cases cvs with
          | nil => exact absurd hvs.1 (by simp)
          | cons cv2 cvs => exact ⟨.tuple (cv :: cv2 :: cvs).toArray, by rw [results_eq]; simp [hm], _, _, μ1, H1, rfl, VR.tups hvs, hr1, hx1, hk⟩
  cases e with
  | normal => exact fin (e := .normal) (by simp) ho
  | ret => exact fin (e := .ret) (by simp) ho
  | exit id =>
    obtain ⟨_, _, _, _, _, _, _, h5⟩ := ho
    exact False.elim h5
  | goto l => exact False.elim ho
  | panic c => exact False.elim ho
  | outgrown => exact False.elim ho
end
end Go.Aw
