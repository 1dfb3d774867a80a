/-
  A range over such an iterator.
-/
import Derived.Test.YtmdiokmkokjpiaaGreatCore22
set_option linter.all false
set_option linter.unusedVariables false
set_option linter.unusedSimpArgs false
set_option linter.unnecessarySimpa false
namespace Go.Aw
section
variable {P : Program} {T : Tab}

theorem Rel.putObj {μ : List Nat} {H : List Blk} {w : World} (h : Rel μ H w) {b : Nat} (hb : b ∉ μ) (o : Obj) : Rel μ H (w.putObj b o) := by
  have hsame : ∀ b', b' ∈ μ → (w.putObj b o).heap[b']? = w.heap[b']? := fun b' hm => World.putObj_heap_other (fun e => hb (e ▸ hm))
  refine ⟨h.len, h.nd, fun b' hm => by rw [World.putObj_size]; exact h.lt b' hm, fun i b' c e hH hμ => ?_, fun i b' f hH hμ o' v hf => ?_⟩
  · rw [hsame b' (List.mem_of_getElem? hμ)]; exact h.blk i b' c e hH hμ
  · obtain ⟨v', h1, h2⟩ := h.rob i b' f hH hμ o' v hf
    exact ⟨v', by rw [cell?_of_heap_eq (hsame b' (List.mem_of_getElem? hμ))]; exact h1, h2⟩

theorem Ext.putObj {μ μ' : List Nat} {H H' : List Blk} {w w' : World} (h : Ext μ H w μ' H' w') {b : Nat} (hb : w.heap.size ≤ b) (o : Obj) : Ext μ H w μ' H' (w'.putObj b o) :=
  ⟨h.pre, by rw [World.putObj_size]; exact h.size, h.os, h.tape, h.output, fun b' hb' hn => by rw [World.putObj_heap_other (by omega)]; exact h.same b' hb' hn, h.own⟩

theorem not_mem_ext {μ μ' : List Nat} {H H' : List Blk} {w w' : World} (h : Ext μ H w μ' H' w') {b : Nat} (hb : b < w.heap.size) (hn : b ∉ μ) : b ∉ μ' := by
  obtain ⟨ext, rfl, he⟩ := h.pre
  intro hm
  rcases List.mem_append.1 hm with h1 | h1
  · exact hn h1
  · have := he b h1; omega

theorem not_own {μ : List Nat} {H : List Blk} {b : Nat} (hn : b ∉ μ) : ¬ Own μ H b := fun ⟨_, _, _, hi, _⟩ => hn (List.mem_of_getElem? hi)

def markOf (D : Nat) : Deferred := { target := .collected D, args := #[] }

/-- What a round's body must reach: it goes on (and the heap, faded, is 'HB'), or it leaves by a jump. -/
def KRound (go : Prop) (H0 HB : List Blk) (KX : Code → List Blk → Prop) : AK := fun e ts H => match e with
  | .normal => go ∧ ∃ ts3, Fade H0 ts H ts3 HB
  | .ret => KX .ret H
  | .exit id => KX (.exit id) H

theorem range_rule (hT : TabOk P T) (hs : Hints) {g : Operand} {p0 : Tmp} {asg body : Code} {Q : Exit → Act → World → Prop} {a : Act} {w : World} {μ : List Nat} {ts : List Value} {H : List Blk}
    (hv : SRs μ ts a.tmps.toList) (hr : Rel μ H w)
    {tf t tb tp : TypeId} {nx f : FuncId} {q1 q2 : String} {fn : Func} (hf : P.funcs[f]? = some fn) (hb : fn.body = some (itCode tf t tb tp nx q1 q2)) (hnt : fn.ntmps = 10) (hres : fn.results = #[])
    (hg : ∀ (args : Array Value) (w : World), (callFunc nx args).run P w = .ok (.enter nx args) w) (henter : ∀ (args : Array Value) (w : World), (callFunc f args).run P w = .ok (.enter f args) w)
    (c0 c1 : Addr) (heval : a.eval g = .func (.func f) #[] #[.pointer (some c0), .pointer (some c1)])
    (N : Nat) (hN : 0 < N) (Hk HB : Nat → List Blk) (st : Nat → Value) (pv : Value) (hst : ∀ k, VR μ (st k) (st k)) (hH0 : Hk 0 = H) (hlk : ∀ k, (Hk k).length = H.length) (hlb : ∀ k, (HB k).length = H.length)
    (hload : ∀ k W, Rel μ (Hk k) W → (Instr.loadAt t (.pointer (some c0))).run P W = .ok (st k) W)
    (hloadp : ∀ k W, Rel μ (HB k) W → (Instr.loadAt tp (.pointer (some c1))).run P W = .ok pv W)
    (hload2 : ∀ k W, Rel μ (HB k) W → (Instr.loadAt t (.pointer (some c0))).run P W = .ok (st k) W)
    (hnext : ∀ k W, Rel μ (HB k) W → Calls P nx #[pv, st k] W fun e W' => e = .returned (st (k + 1)) ∧ ∃ W'', (Instr.storeAt t (.pointer (some c0)) (st (k + 1))).run P W' = .ok () W'' ∧ Rel μ (Hk (k + 1)) W'' ∧ Ext μ (HB k) W μ (Hk (k + 1)) W'')
    (KX : Code → List Blk → Prop) (hpa : plainC asg = true) (hpb : plainC body = true) (hoa : codeOk T hs asg = true) (hob : codeOk T hs body = true)
    (hround : ∀ k, k < N → AWp P T hs asg (fun e ts1 H1 => match e with | .normal => AWp P T hs body (KRound (k + 1 < N) (Hk k) (HB k) KX) ts1 H1 | _ => False) (ts.set p0 (st k)) (Hk k))
    (hQ : ∀ (c : Code) (μ' : List Nat) (H' : List Blk) (D : Nat) (W : World), w.heap.size ≤ D → D ∉ μ' → W.heap[D]? = some (.deferred (some [])) → Rel μ' H' W → Ext μ H w μ' H' W → KX c H' →
      c.wpIn Fence.wide 0 P Q { a with defers := markOf D :: a.defers } W) :
    (Code.rangeFunc g #[p0] asg body).wpIn Fence.wide 0 P Q a w := by
  refine wpIn_rangeFunc ?_
  intro fnn hfn
  obtain ⟨rec, hrec⟩ : ∃ rec : LoopState → Option Code → Loop, rec = fun st pe => { state := st, pending := pe, fn := fnn, tmps := a.tmps, params := #[p0], assign := asg, body, defers := w.heap.size } := ⟨_, rfl⟩
  obtain ⟨W1, hW1⟩ : ∃ W1, (w.alloc (.deferred (some []))).alloc (.loop (rec .ready none)) = W1 := ⟨_, rfl⟩
  have hD : w.heap.size ∉ μ := fun h => Nat.lt_irrefl _ (hr.lt _ h)
  have hL : w.heap.size + 1 ∉ μ := fun h => by have := hr.lt _ h; omega
  obtain ⟨r1, x1⟩ := hr.bigger (.deferred (some []))
  obtain ⟨r2, x2⟩ := r1.bigger (.loop (rec .ready none))
  rw [hW1] at r2 x2
  have hx1 : Ext μ H w μ H W1 := x1.trans hr.len r1.len x2
  have hL1 : W1.heap[w.heap.size + 1]? = some (.loop (rec .ready none)) := by
    rw [← hW1]; have := World.alloc_heap_new (w.alloc (.deferred (some []))) (.loop (rec .ready none)); rwa [World.size_alloc] at this
  have hK1 : W1.heap[w.heap.size]? = some (.deferred (some [])) := by
    rw [← hW1]; exact (heap_alloc_old _ _ (by simp)).trans (World.alloc_heap_new w _)
  refine ⟨w.heap.size + 1, [{ target := .collected w.heap.size, args := #[] }], W1, { target := .fn (.func f) #[.pointer (some c0), .pointer (some c1)], args := #[.func (.yield (w.heap.size + 1)) #[] #[]] }, W1, f,
    #[.func (.yield (w.heap.size + 1)) #[] #[], .pointer (some c0), .pointer (some c1)], W1, ?_, ?_, fun _ _ => trivial, ?_, fun h => by simp [Fence.wide] at h, ?_⟩
  · rw [← hW1, hrec]; exact run_enterLoop_outer _ _ _ _ _
  · simp only [resolve, heval]
    simp [Act.eval, Deferred.ofValue, Sem.run_bind]
  · simp [invoke, henter]
  · refine (states_iter hf hb hnt hres hg c0 c1 (w.heap.size + 1) N
      (fun k W => Rel μ (Hk k) W ∧ Ext μ H w μ (Hk k) W ∧ W.heap[w.heap.size + 1]? = some (.loop (rec .ready none)) ∧ W.heap[w.heap.size]? = some (.deferred (some [])))
      (fun k W => Rel μ (HB k) W ∧ Ext μ H w μ (HB k) W ∧ W.heap[w.heap.size + 1]? = some (.loop (rec .ready none)) ∧ W.heap[w.heap.size]? = some (.deferred (some [])))
      (fun W => ∃ c μ' H', KX c H' ∧ Rel μ' H' W ∧ Ext μ H w μ' H' W ∧ W.heap[w.heap.size + 1]? = some (.loop (rec .done (some c))) ∧ W.heap[w.heap.size]? = some (.deferred (some [])) ∧ w.heap.size ∉ μ' ∧ w.heap.size + 1 ∉ μ')
      st pv (fun k W h => hload k W h.1) ?_ (fun k W h => hloadp k W h.1) (fun k W h => hload2 k W h.1) ?_ W1 hN ⟨by rw [hH0]; exact r2, by rw [hH0]; exact hx1, hL1, hK1⟩).mono ?_
    · rintro k W hk ⟨hR, hX, hl, hd⟩
      have hlt : w.heap.size + 1 < W.heap.size := (Array.getElem?_eq_some_iff.1 hl).1
      have hy := run_yield (P := P) (args := #[st k]) hl (by rw [hrec]; rfl)
      rw [hrec] at hy
      have hz : (#[p0].zip #[st k]).foldl (fun tmps (t, a) => tmps.setIfInBounds t a) a.tmps = a.tmps.setIfInBounds p0 (st k) := by simp
      dsimp only at hy
      rw [hz] at hy
      refine ⟨fnn, _, asg, body, hy, roundIn_of_wpIn trivial ?_⟩
      have hv0 : SRs μ (ts.set p0 (st k)) (a.tmps.setIfInBounds p0 (st k)).toList := by simpa using hv.set p0 (hst k)
      have h1 := code_in (P := P) (r := some (w.heap.size + 1)) (n := 0) (ds := []) hT hs asg _ _ (Hk k) hpa hoa (hround k hk) μ { tmps := a.tmps.setIfInBounds p0 (st k), defers := [] } W hv0 hR rfl
      refine wpIn_mono (F := wideR (some (w.heap.size + 1))) h1 ?_
      rintro e a1 Wa ho
      cases e with
      | normal =>
        obtain ⟨μ1, ts1, H1, hv1, hr1, hxa, hd1, hbody⟩ := ho
        have hDa : w.heap.size ∉ μ1 := not_mem_ext hxa (by omega) hD
        have hLa : w.heap.size + 1 ∉ μ1 := not_mem_ext hxa hlt hL
        have hla : Wa.heap[w.heap.size + 1]? = some (.loop (rec .ready none)) := (hxa.same _ hlt (not_own hL)).trans hl
        have hda : Wa.heap[w.heap.size]? = some (.deferred (some [])) := (hxa.same _ (by omega) (not_own hD)).trans hd
        have hlta : w.heap.size + 1 < Wa.heap.size := (Array.getElem?_eq_some_iff.1 hla).1
        refine ⟨_, run_beginRound hla (by rw [hrec]), ?_⟩
        obtain ⟨Wb, hWb⟩ : ∃ Wb, Wa.putObj (w.heap.size + 1) (.loop { rec .ready none with state := .busy }) = Wb := ⟨_, rfl⟩
        rw [hWb]
        have hrb : Rel μ1 H1 Wb := by rw [← hWb]; exact hr1.putObj hLa _
        have hxb : Ext μ H w μ1 H1 Wb := by rw [← hWb]; exact (hX.trans hr.len hR.len hxa).putObj (by omega) _
        have hlb' : Wb.heap[w.heap.size + 1]? = some (.loop { rec .ready none with state := .busy }) := by rw [← hWb]; exact World.putObj_heap_same hlta
        have hdb : Wb.heap[w.heap.size]? = some (.deferred (some [])) := by rw [← hWb]; exact (World.putObj_heap_other (by omega)).trans hda
        have hltb : w.heap.size + 1 < Wb.heap.size := (Array.getElem?_eq_some_iff.1 hlb').1
        have h2 := code_in (P := P) (r := some (w.heap.size + 1)) (n := 0) (ds := []) hT hs body _ _ H1 hpb hob hbody μ1 a1 Wb hv1 hrb hd1
        refine wpIn_mono (F := wideR (some (w.heap.size + 1))) h2 ?_
        have fin : ∀ (jump : Option Code) (μ3 : List Nat) (H3 : List Blk) (W3 : World), Rel μ3 H3 W3 → Ext μ1 H1 Wb μ3 H3 W3 →
            (Instr.endRound (w.heap.size + 1) jump).run P W3 = .ok (.bool jump.isNone) (W3.putObj (w.heap.size + 1) (.loop (rec (if jump.isNone then .ready else .done) jump))) ∧
            Rel μ3 H3 (W3.putObj (w.heap.size + 1) (.loop (rec (if jump.isNone then .ready else .done) jump))) ∧
            Ext μ H w μ3 H3 (W3.putObj (w.heap.size + 1) (.loop (rec (if jump.isNone then .ready else .done) jump))) ∧
            (W3.putObj (w.heap.size + 1) (.loop (rec (if jump.isNone then .ready else .done) jump))).heap[w.heap.size + 1]? = some (.loop (rec (if jump.isNone then .ready else .done) jump)) ∧
            (W3.putObj (w.heap.size + 1) (.loop (rec (if jump.isNone then .ready else .done) jump))).heap[w.heap.size]? = some (.deferred (some [])) ∧
            w.heap.size ∉ μ3 ∧ w.heap.size + 1 ∉ μ3 := fun jump μ3 H3 W3 hr3 hx3 => by
          have hl3 := (hx3.same _ hltb (not_own hLa)).trans hlb'
          have hd3 := (hx3.same _ (by omega) (not_own hDa)).trans hdb
          have hL3 := not_mem_ext hx3 hltb hLa
          have hD3 := not_mem_ext hx3 (by omega : w.heap.size < Wb.heap.size) hDa
          have he := run_endRound (P := P) jump hl3
          rw [hrec] at he
          exact ⟨by rw [hrec]; exact he, hr3.putObj hL3 _, (hxb.trans hr.len hr1.len hx3).putObj (by omega) _, World.putObj_heap_same (Array.getElem?_eq_some_iff.1 hl3).1, (World.putObj_heap_other (by omega)).trans hd3, hD3, hL3⟩
        rintro e a3 W3 ho3
        cases e with
        | normal =>
          obtain ⟨μ3, ts3, H3, hv3, hr3, hx3, _, hgo, ts4, hfade⟩ := ho3
          obtain ⟨he, hr4, hx4, hl4, hd4, _, _⟩ := fin none μ3 H3 W3 hr3 hx3
          have hxk : Ext μ (Hk k) W μ3 H3 (W3.putObj (w.heap.size + 1) (.loop (rec .ready none))) := by
            refine hxa.trans hR.len hr1.len ⟨?_, ?_, ?_, ?_, ?_, ?_, hx3.own⟩
            · have := hx3.pre; rw [← hWb, World.putObj_size] at this; exact this
            · have := hx3.size; rw [← hWb, World.putObj_size] at this; rw [World.putObj_size]; exact this
            · have := hx3.os; rw [← hWb] at this; exact this
            · have := hx3.tape; rw [← hWb] at this; exact this
            · have := hx3.output; rw [← hWb] at this; exact this
            · intro b hb' hno
              by_cases hbl : b = w.heap.size + 1
              · subst hbl; rw [hla]; exact hl4
              · have e1 : Wb.heap[b]? = Wa.heap[b]? := by rw [← hWb]; exact World.putObj_heap_other hbl
                rw [World.putObj_heap_other hbl, hx3.same b (by rw [← hWb, World.putObj_size]; exact hb') hno, e1]
          obtain ⟨μ5, _, hr5, hx5⟩ := fade_sound hR hv3 hr4 hxk hfade
          have hμ5 : μ5 = μ := by
            obtain ⟨ext, rfl, _⟩ := hx5.pre
            have h5 := hr5.len
            rw [hlb, List.length_append, ← hr.len] at h5
            have : ext = [] := List.length_eq_zero_iff.1 (by omega)
            rw [this, List.append_nil]
          subst hμ5
          exact ⟨_, _, he, .inl ⟨rfl, hgo, hr5, hX.trans hr.len hR.len hx5, hl4, hd4⟩⟩
        | ret =>
          obtain ⟨μ3, ts3, H3, hv3, hr3, hx3, _, hkx⟩ := ho3
          obtain ⟨he, hr4, hx4, hl4, hd4, hD4, hL4⟩ := fin (some .ret) μ3 H3 W3 hr3 hx3
          exact ⟨_, _, he, .inr ⟨rfl, .ret, μ3, H3, hkx, hr4, hx4, hl4, hd4, hD4, hL4⟩⟩
        | exit id =>
          obtain ⟨μ3, ts3, H3, hv3, hr3, hx3, _, hkx⟩ := ho3
          obtain ⟨he, hr4, hx4, hl4, hd4, hD4, hL4⟩ := fin (some (.exit id)) μ3 H3 W3 hr3 hx3
          exact ⟨_, _, he, .inr ⟨rfl, .exit id, μ3, H3, hkx, hr4, hx4, hl4, hd4, hD4, hL4⟩⟩
        | goto t => exact ho3.elim
        | panic ch => exact ho3.elim
        | outgrown => exact ho3.elim
      | exit id => obtain ⟨_, _, _, _, _, _, _, hk'⟩ := ho; exact hk'.elim
      | ret => obtain ⟨_, _, _, _, _, _, _, hk'⟩ := ho; exact hk'.elim
      | goto t => exact ho.elim
      | panic ch => exact ho.elim
      | outgrown => exact ho.elim
    · rintro k W ⟨hR, hX, hl, hd⟩
      refine (hnext k W hR).mono ?_
      rintro e W' ⟨rfl, W'', hs', hR', hX'⟩
      have hlt := (Array.getElem?_eq_some_iff.1 hl).1
      exact ⟨rfl, W'', hs', hR', hX.trans hr.len hR.len hX', (hX'.same _ hlt (not_own hL)).trans hl, (hX'.same _ (by omega) (not_own hD)).trans hd⟩
    · rintro e W ⟨⟨v, rfl⟩, c, μ', H', hkx, hR, hX, hl, hd, hDn, hLn⟩
      refine ⟨some c, _, by have := run_endLoop (P := P) hl (by rw [hrec]; simp); rw [hrec] at this; exact this, ?_⟩
      exact hQ c μ' H' w.heap.size _ (Nat.le_refl _) hDn ((World.putObj_heap_other (by omega)).trans hd) (hR.putObj hLn _) (hX.putObj (by omega) _) hkx
end
end Go.Aw
