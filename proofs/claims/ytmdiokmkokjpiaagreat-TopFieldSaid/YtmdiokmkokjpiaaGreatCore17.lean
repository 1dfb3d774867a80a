/-
  From a contract to a law's row: arguments without pointers; what a law's row asks of the end.
-/
import Derived.Test.YtmdiokmkokjpiaaGreatCore16
import Derived.ProofKit
import Derived.OpenShut
import Derived.Deep.Slices
set_option linter.all false
set_option linter.unusedVariables false
set_option linter.unusedSimpArgs false
set_option linter.unnecessarySimpa false
namespace Go.Aw
open Go.ChangeShapes Go.WideShapes Go.RowKit
section
variable {P : Program} {T : Tab}

/-- From a contract that asks nothing of memory. -/
theorem walk_of {f : FuncId} {args : List Value} (h : ACalls P f args [] fun v _ => v = .bool true) (hv : VRs [] args args) (w : World) :
    Calls P f args.toArray w fun e w' => e = .returned (.bool true) ∧ Below w.heap.size w w' := by
  obtain ⟨_, h2⟩ := h.out [] w args hv ⟨rfl, List.nodup_nil, by simp, by simp, by simp⟩
  refine h2.mono fun e w' hh => ?_
  obtain ⟨v, cv, μ', H', rfl, hvr, hr, hx, rfl⟩ := hh
  cases hvr
  exact ⟨rfl, hx.os, hx.tape, hx.output, hx.size, fun k hk => hx.same k hk (by rintro ⟨i, c, e, hi, _⟩; simp at hi)⟩

/-- From a contract that reads one block. -/
theorem walk_ro {f : FuncId} {args cargs : List Value} {g : Nat → Option Value} (h : ACalls P f args [.ro g] fun v _ => v = .bool true) {b : Nat} (hv : VRs [b] args cargs) (w : World) (hb : b < w.heap.size)
    (hg : ∀ (o : Nat) (v : Value), g o = some v → w.cell? ⟨b, o, none⟩ = some v ∧ VR [b] v v) :
    Calls P f cargs.toArray w fun e w' => e = .returned (.bool true) ∧ Below w.heap.size w w' := by
  obtain ⟨_, h2⟩ := h.out [b] w cargs hv ⟨rfl, by simp, by simpa using hb, fun i b' c e hH _ => by
      cases i with
      | zero => simp at hH
      | succ i => simp at hH, fun i b' f' hH hμ o v hf => by
      cases i with
      | zero => simp at hH hμ; subst hH; subst hμ; exact ⟨v, (hg o v hf).1, (hg o v hf).2⟩
      | succ i => simp at hH⟩
  refine h2.mono fun e w' hh => ?_
  obtain ⟨v, cv, μ', H', rfl, hvr, hr, hx, rfl⟩ := hh
  cases hvr
  exact ⟨rfl, hx.os, hx.tape, hx.output, hx.size, fun k hk => hx.same k hk (by
    rintro ⟨i, c, e, hi, hc⟩
    cases i with
    | zero => simp at hc
    | succ i => simp at hi)⟩

theorem trodAll_below {H : Type} {enc : TypeId × Value → H} (hl : laidOutB P = true) {W W' : World} (hb : Below W.heap.size W W') : ∀ (ts : List TypeId) (vs : List Value) (ds : List (DataW H)) (ps : List MemPlace),
    (∀ t ∈ ts, P.readableRec t = true ∧ t < P.types.size) → (∀ p ∈ ps, p.block < W.heap.size) → DataW.TrodAll enc P W 0 (fun _ => true) true ts vs ds ps → DataW.TrodAll enc P W' 0 (fun b => decide (b < W.heap.size)) true ts vs ds ps
  | [], vs, ds, ps, _, _, h => by
    obtain ⟨rfl, rfl, rfl⟩ := trodAll_nil h
    exact rfl
  | t :: ts, vs, ds, ps, ht, hlt, h => by
    obtain ⟨v, vs', d, ds', p, q, rfl, rfl, rfl, h1, h2⟩ := trodAll_cons h
    obtain ⟨hr, hs⟩ := ht t (List.mem_cons_self ..)
    exact ⟨p, q, Below.trod hl hr hs h1 hb fun x hx => hlt x (List.mem_append_left _ hx), trodAll_below hl hb ts vs' ds' q (fun t h => ht t (List.mem_cons_of_mem _ h)) (fun x hx => hlt x (List.mem_append_right _ hx)) h2, rfl⟩

/-- A law's end: it hands back true, its arguments read as they did. -/
theorem post_law {H : Type} {enc : TypeId × Value → H} {f : Func} {s : ChangeSpec} {W W' : World} {args : Array Value} {ds gs : List (DataW H)} {before : List MemPlace}
    (hl : laidOutB P = true) (hW : DataW.Whole enc P f.params.toList s.vars false W args.toList ds gs before) (hvars : s.vars = [])
    (hts : f.params.toList.all (fun t => P.readableRec t && decide (t < P.types.size)) = true) {tb : TypeId} (hb : P.underlying tb = some .bool) (hres : f.resultTypes = #[tb])
    (hfn : s.fn H ds = { results := [.lit (.bool true)], args := ds }) (hbelow : Below W.heap.size W W') : s.post enc P f false true false false W args (.bool true) W' := by
  have hlt : ∀ p ∈ before, p.block < W.heap.size := fun p hp => hW.lt p hp
  have hW' := hW
  obtain ⟨p, q, hA, hV, rfl, hfz, hnd⟩ := hW
  rw [hvars] at hV
  obtain ⟨rfl, rfl⟩ := trodVars_none hV
  simp only [List.append_nil] at hlt hW' hfz
  refine ⟨ds, [], p, [], p, [], hW', ?_, ?_, ?_, hbelow.frame _, fun h => by cases h⟩
  · rw [List.append_nil, hfn, hres]
    exact trodAll_cons_mk (shut_bool hb true) trodAll_mk0
  · rw [List.append_nil, hfn]
    refine trodAll_below hl hbelow _ _ _ _ (fun t ht => ?_) hlt hA
    have := (List.all_eq_true.1 hts) t ht
    simp only [Bool.and_eq_true, decide_eq_true_eq] at this
    exact this
  · rw [hvars, List.append_nil, hfn]
    exact rfl

/-! ### Arguments that are numbers and truth values alone -/
inductive CK where
  | int (k : IntKind)
  | bool
def CK.fits : CK → Value → Prop
  | .int k, v => ∃ n, v = .int k n ∧ (Lit.int k n).wf = true
  | .bool, v => ∃ b, v = .bool b

/-- The kinds of a struct's cells, one behind the other. -/
def fldsT (rec : TypeId → Option (List CK)) (T : Tab) : Nat → List Field → Option (List CK)
  | _, [] => some []
  | o, f :: fs => match T[f.type]? with
    | some (some j) => match rec f.type, fldsT rec T (o + j.size) fs with
      | some l, some m => if f.offset = o ∧ l.length = j.size then some (l ++ m) else none
      | _, _ => none
    | _ => none
/-- The kinds of a type's cells, one behind the other. -/
def flatT (T : Tab) : Nat → TypeId → Option (List CK)
  | 0, _ => none
  | d + 1, t => match T[t]? with
    | some (some i) => match i.desc with
      | .int k => some [.int k]
      | .bool => some [.bool]
      | .array n e => match T[e]?, flatT T d e with
        | some (some j), some l => if l.length = j.size ∧ n * j.size = i.size then some (List.replicate n l).flatten else none
        | _, _ => none
      | .struct fs => match fldsT (flatT T d) T 0 fs.toList with
        | some l => if l.length = i.size then some l else none
        | none => none
      | _ => none
    | _ => none

def FitsAll (ks : List CK) (cs : List Value) : Prop := cs.length = ks.length ∧ ∀ (i : Nat) (k : CK) (v : Value), ks[i]? = some k → cs[i]? = some v → k.fits v

theorem flds_fit {H : Type} {enc : TypeId × Value → H} (hT : TabOk P T) {w : World} {base : Nat} {spare : Nat → Bool} {held : Bool} {rec : TypeId → Option (List CK)} {n : Nat} {cs : List Value}
    (hrec : ∀ (t : TypeId) (ks : List CK) (cs : List Value) (x : DataW H × List MemPlace), rec t = some ks → DataW.trod enc P w base spare held n t cs = some x → FitsAll ks cs) :
    ∀ (fs : List Field) (o : Nat) (ks : List CK), fldsT rec T o fs = some ks → (∀ f ∈ fs, ∃ x, DataW.trod enc P w base spare held n f.type ((cs.drop f.offset).take (P.cellsOf f.type)) = some x) →
      ∀ (i : Nat) (k : CK) (v : Value), ks[i]? = some k → cs[o + i]? = some v → k.fits v
  | [], o, ks, h, _, i, k, v, hk, _ => by simp [fldsT] at h; subst h; simp at hk
  | f :: fs, o, ks, h, hx, i, k, v, hk, hv => by
    unfold fldsT at h
    split at h
    · rename_i j hj
      split at h
      · rename_i l m hl hm
        split at h
        · rename_i hc
          obtain ⟨hfo, hll⟩ := hc
          cases h
          obtain ⟨x, hx1⟩ := hx f (List.mem_cons_self ..)
          have hfit := hrec _ _ _ _ hl hx1
          rw [hT.cellsOf hj, hfo] at hfit
          by_cases hi : i < l.length
          · rw [List.getElem?_append_left hi] at hk
            refine hfit.2 i k v hk ?_
            rw [List.getElem?_take, if_pos (by omega), List.getElem?_drop]; exact hv
          · rw [List.getElem?_append_right (by omega)] at hk
            exact flds_fit hT hrec fs (o + j.size) m hm (fun f hf => hx f (List.mem_cons_of_mem _ hf)) (i - l.length) k v hk (by rw [show o + j.size + (i - l.length) = o + i by omega]; exact hv)
        · cases h
      · cases h
    · cases h

theorem flat_fit {H : Type} {enc : TypeId × Value → H} (hT : TabOk P T) {w : World} {base : Nat} {spare : Nat → Bool} {held : Bool} : ∀ (d : Nat) (n : Nat) (t : TypeId) (ks : List CK) (cs : List Value) (x : DataW H × List MemPlace),
    flatT T d t = some ks → DataW.trod enc P w base spare held n t cs = some x → FitsAll ks cs
  | 0, _, _, _, _, _, h, _ => by simp [flatT] at h
  | d + 1, n, t, ks, cs, x, h, hx => by
    unfold flatT at h
    split at h
    · rename_i i hi
      have hu := hT.und t i hi
      split at h
      · rename_i k hd
        cases h
        obtain ⟨m, rfl, _, hw⟩ := DataW.trod_int (hu.trans (by rw [hd])) hx
        refine ⟨rfl, fun i k v hk hv => ?_⟩
        cases i with
        | zero => simp at hk hv; subst hk; subst hv; exact ⟨m, rfl, hw⟩
        | succ i => simp at hk
      · rename_i hd
        cases h
        obtain ⟨m, rfl, _⟩ := DataW.trod_bool (hu.trans (by rw [hd])) hx
        refine ⟨rfl, fun i k v hk hv => ?_⟩
        cases i with
        | zero => simp at hk hv; subst hk; subst hv; exact ⟨m, rfl⟩
        | succ i => simp at hk
      · rename_i m e hd
        split at h
        · rename_i j l hj hl
          split at h
          · rename_i hc
            obtain ⟨hll, hsz⟩ := hc
            cases h
            obtain ⟨xs, q, _, _, hlen, hxl, hch⟩ := DataW.trod_array (hu.trans (by rw [hd])) hx
            rw [hT.cellsOf hi] at hlen
            have hks : ∀ m : Nat, ((List.replicate m l).flatten).length = m * l.length := fun m => by
              induction m with
              | zero => simp
              | succ m ih => rw [List.replicate_succ, List.flatten_cons, List.length_append, ih, Nat.succ_mul]; omega
            have hget : ∀ (m i : Nat) (k : CK), ((List.replicate m l).flatten)[i]? = some k → i / l.length < m ∧ l[i % l.length]? = some k := fun m => by
              induction m with
              | zero => intro i k hk; simp at hk
              | succ m ih =>
                intro i k hk
                rw [List.replicate_succ, List.flatten_cons] at hk
                by_cases hi : i < l.length
                · rw [List.getElem?_append_left hi] at hk
                  rw [Nat.div_eq_of_lt hi, Nat.mod_eq_of_lt hi]
                  exact ⟨Nat.succ_pos _, hk⟩
                · rw [List.getElem?_append_right (by omega)] at hk
                  obtain ⟨h1, h2⟩ := ih _ _ hk
                  have hpos : 0 < l.length := by
                    rcases Nat.eq_zero_or_pos l.length with h0 | h0
                    · rw [h0] at h2; simp at h2
                      rw [List.length_eq_zero_iff.1 h0] at h2; simp at h2
                    · exact h0
                  refine ⟨?_, ?_⟩
                  · rw [Nat.div_eq_sub_div hpos (by omega)]; omega
                  · rw [Nat.mod_eq_sub_mod (by omega)]; exact h2
            refine ⟨by rw [hlen, hks, hll, hsz], fun i k v hk hv => ?_⟩
            obtain ⟨h1, h2⟩ := hget _ _ _ hk
            have hch := hch (i / l.length) h1
            have hxs : xs[i / l.length]? = some xs[i / l.length] := List.getElem?_eq_getElem (by omega)
            rw [hxs, hT.cellsOf hj] at hch
            have hfit := flat_fit hT d q e l _ _ hl hch
            refine hfit.2 (i % l.length) k v h2 ?_
            have hpos : 0 < l.length := by
              rcases Nat.eq_zero_or_pos l.length with h0 | h0
              · rw [List.length_eq_zero_iff.1 h0] at h2; simp at h2
              · exact h0
            have hm := Nat.mod_lt i hpos
            rw [List.getElem?_take, if_pos (by omega), List.getElem?_drop]
            have hdm := Nat.div_add_mod i l.length
            rw [show i / l.length * j.size + i % l.length = i by rw [← hll, Nat.mul_comm]; exact hdm]
            exact hv
          · cases h
        · cases h
      · rename_i fs hd
        split at h
        · rename_i l hl
          split at h
          · rename_i hc
            cases h
            obtain ⟨xs, q, _, _, hlen, hxl, hch⟩ := DataW.trod_struct (hu.trans (by rw [hd])) hx
            rw [hT.cellsOf hi] at hlen
            refine ⟨by rw [hlen, hc], fun i k v hk hv => ?_⟩
            refine flds_fit (enc := enc) (w := w) (base := base) (spare := spare) (held := held) hT (fun t ks cs x => flat_fit hT d q t ks cs x) fs.toList 0 _ hl (fun f hf => ?_) i k v hk (by simpa using hv)
            obtain ⟨m, hm⟩ := List.mem_iff_getElem?.1 hf
            have hml : m < xs.length := by rw [hxl]; have := (List.getElem?_eq_some_iff.1 hm).1; simpa using this
            have := hch m f (by simpa using hm)
            rw [List.getElem?_eq_getElem hml] at this
            exact ⟨_, this⟩
          · cases h
        · cases h
      · cases h
    · cases h

theorem CK.fits_vr {k : CK} {v : Value} (h : k.fits v) (μ : List Nat) : VR μ v v := by
  cases k with
  | int k => obtain ⟨n, rfl, _⟩ := h; exact .int _ _
  | bool => obtain ⟨b, rfl⟩ := h; exact .bool _

theorem FitsAll.vrs {ks : List CK} {cs : List Value} (h : FitsAll ks cs) (μ : List Nat) : VRs μ cs cs := ⟨rfl, fun i x y hx hy => by
  rw [hx] at hy; cases hy
  have hi : i < ks.length := by rw [← h.1]; exact (List.getElem?_eq_some_iff.1 hx).1
  exact CK.fits_vr (h.2 i _ x (List.getElem?_eq_getElem hi) hx) μ⟩

/-- An array or a struct of numbers and truth values, by value. -/
theorem open_flat {H : Type} {enc : TypeId × Value → H} (hT : TabOk P T) {w : World} {base b0 : Nat} {r : Reach} {spare : Nat → Bool} {held : Bool} {t : TypeId} {i : TInf} (hi : T[t]? = some (some i)) (ha : isAggD i.desc = true) {ks : List CK} (hk : flatT T 8 t = some ks)
    {v : Value} {d : DataW H} {p : List MemPlace} (hv : Value.okWide P w r b0 t v) (h : DataW.Trod enc P w base spare held t v d p) : ∃ cs : List Value, v = .agg cs.toArray ∧ FitsAll ks cs := by
  have hu := hT.und t i hi
  have : ∃ cs, v = .agg cs := by
    unfold Value.okWide at hv
    rw [hu] at hv
    cases hd : i.desc <;> rw [hd] at ha hv <;> first | (simp [isAggD] at ha; done) | (obtain ⟨cs, rfl, _⟩ := hv; exact ⟨cs, rfl⟩)
  obtain ⟨cs, rfl⟩ := this
  obtain ⟨fuel, hf⟩ := h
  exact ⟨cs.toList, by simp, flat_fit hT 8 fuel t ks _ _ hk (by simpa [Value.cells] using hf)⟩

/-- A slice of such elements. -/
theorem open_flats {H : Type} {enc : TypeId × Value → H} (hT : TabOk P T) {w : World} {b0 : Nat} {r : Reach} {t e : TypeId} {i j : TInf} (hi : T[t]? = some (some i)) (hd : i.desc = .slice e) (hj : T[e]? = some (some j)) {ks : List CK} (hk : flatT T 8 e = some ks)
    {v : Value} {d : DataW H} {p : List MemPlace} (hv : Value.okWide P w r b0 t v) (h : DataW.Trod enc P w 0 (fun _ => true) true t v d p) :
    v = .slice none 0 0 ∨ ∃ (b off len cap : Nat) (E : Nat → List Value), v = .slice (some ⟨b, off, none⟩) len cap ∧ len ≤ cap ∧ cap ≤ maxLen ∧ b < w.heap.size ∧ (∀ n, n < len → FitsAll ks (E n)) ∧ (∀ n, n < len → ∀ m x, (E n)[m]? = some x → w.cell? ⟨b, off + n * j.size + m, none⟩ = some x) := by
  have hu := hT.und t i hi
  have hu' : P.underlying t = some (.slice e) := hu.trans (by rw [hd])
  obtain ⟨a0, len, cap, rfl⟩ := okWide_slice hu' hv
  obtain ⟨fuel, hf⟩ := h
  rcases Go.Deep.open_slice hu' (by simpa [Value.cells] using hf) with ⟨hc, _⟩ | ⟨a, len', cap', m, n, D, Pl, hc, _, hl, hm, hmm, _, hx⟩
  · left
    have := congrArg (fun l : List Value => l[0]?) hc
    simpa using this
  · right
    have he : (Value.slice a0 len cap) = .slice (some a) len' cap' := by
      have := congrArg (fun l : List Value => l[0]?) hc
      simpa using this
    simp only [Value.slice.injEq] at he
    obtain ⟨rfl, rfl, rfl⟩ := he
    simp only [if_true] at hmm
    have hhas : a.spot = none ∧ a.block < w.heap.size := by
      have hv' : World.has P w r b0 a e cap := by
        simp only [Value.okWide, hu', Cell.okWide, Cell.ok] at hv
        exact hv.2.2
      obtain ⟨_, hs, row, cells, hsh, _⟩ := hv'
      refine ⟨hs, ?_⟩
      unfold World.shape? at hsh
      split at hsh
      · rename_i c el h hc2
        exact (Array.getElem?_eq_some_iff.1 hc2).1
      · cases hsh
    obtain ⟨ab, ao, asp⟩ := a
    obtain ⟨hs, hlt⟩ := hhas
    simp only at hs hlt
    subst hs
    have hx' : ∀ i, i < len → ∃ cs', FitsAll ks cs' ∧ ∀ (m : Nat) (x : Value), cs'[m]? = some x → w.cell? ⟨ab, ao + i * j.size + m, none⟩ = some x := fun i hi => by
      obtain ⟨cs', h1, h2⟩ := hx i (by omega)
      refine ⟨cs', flat_fit hT 8 n e ks _ _ hk h2, fun m x hm => ?_⟩
      obtain ⟨_, hlen, hcell⟩ := World.cells?_some h1
      have hml := (List.getElem?_eq_some_iff.1 hm).1
      have := hcell m (by omega)
      rw [hm, hT.cellsOf hj] at this
      have hadd : ∀ (o n : Nat), (Addr.add ⟨ab, o, none⟩ n) = ⟨ab, o + n, none⟩ := fun o n => by
        unfold Addr.add; split
        · rename_i h0; subst h0; rfl
        · rfl
      rw [hadd, hadd] at this
      exact this
    refine ⟨ab, ao, len, cap, fun i => if h : i < len then (hx' i h).choose else [], rfl, hl, hm, hlt, fun n hn => ?_, fun n hn => ?_⟩
    · simp only [dif_pos hn]; exact (hx' n hn).choose_spec.1
    · simp only [dif_pos hn]; exact (hx' n hn).choose_spec.2

end
end Go.Aw
