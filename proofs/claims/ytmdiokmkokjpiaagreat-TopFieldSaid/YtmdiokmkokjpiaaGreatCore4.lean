/-
  What 'quietF' and 'effectF' ask is what the model's operations do, in every world that holds the heap.
-/
import Derived.Test.YtmdiokmkokjpiaaGreatCore3
import Derived.Laws.StructEq
import Derived.ChangeKeysEq
set_option linter.all false
set_option linter.unusedVariables false
set_option linter.unusedSimpArgs false
set_option linter.unnecessarySimpa false
namespace Go.Aw

/-! ### The lists -/
section lists
variable {α : Type}
theorem getF_iff {l : List α} {i : Nat} {k : α → Prop} (h : getF l i k) : ∃ v, l[i]? = some v ∧ k v := by
  induction l generalizing i with
  | nil => exact h.elim
  | cons a l ih => cases i with
    | zero => exact ⟨a, rfl, h⟩
    | succ i => simpa using ih h
theorem getF_of {l : List α} {i : Nat} {k : α → Prop} {v : α} (h : l[i]? = some v) (hk : k v) : getF l i k := by
  induction l generalizing i with
  | nil => simp at h
  | cons a l ih => cases i with
    | zero => simp at h; subst h; exact hk
    | succ i => simp at h; exact ih h
theorem setF_iff {l : List α} {i : Nat} {v : α} {k : List α → Prop} (h : setF l i v k) : k (l.set i v) := by
  induction l generalizing i k with
  | nil => simpa [setF] using h
  | cons a l ih => cases i with
    | zero => exact h
    | succ i => exact ih (k := fun l' => k (a :: l')) h
theorem setF_of {l : List α} {i : Nat} {v : α} {k : List α → Prop} (h : k (l.set i v)) : setF l i v k := by
  induction l generalizing i k with
  | nil => simpa [setF] using h
  | cons a l ih => cases i with
    | zero => exact h
    | succ i => exact ih (k := fun l' => k (a :: l')) h
theorem takeF_iff {l : List α} {n : Nat} {k : List α → Prop} (h : takeF l n k) : n ≤ l.length ∧ k (l.take n) := by
  induction n generalizing l k with
  | zero => cases l <;> exact ⟨Nat.zero_le _, by simpa [takeF] using h⟩
  | succ n ih => cases l with
    | nil => exact h.elim
    | cons a l => have := ih (k := fun l' => k (a :: l')) h; exact ⟨by simpa using this.1, this.2⟩
theorem takeF_of {l : List α} {n : Nat} {k : List α → Prop} (hn : n ≤ l.length) (h : k (l.take n)) : takeF l n k := by
  induction n generalizing l k with
  | zero => cases l <;> simpa [takeF] using h
  | succ n ih => cases l with
    | nil => simp at hn
    | cons a l => exact ih (k := fun l' => k (a :: l')) (by simpa using hn) h
theorem dropF_iff {l : List α} {n : Nat} {k : List α → Prop} (h : dropF l n k) : n ≤ l.length ∧ k (l.drop n) := by
  induction n generalizing l with
  | zero => cases l <;> exact ⟨Nat.zero_le _, by simpa [dropF] using h⟩
  | succ n ih => cases l with
    | nil => exact h.elim
    | cons a l => have := ih h; exact ⟨by simpa using this.1, this.2⟩
theorem dropF_of {l : List α} {n : Nat} {k : List α → Prop} (hn : n ≤ l.length) (h : k (l.drop n)) : dropF l n k := by
  induction n generalizing l with
  | zero => cases l <;> simpa [dropF] using h
  | succ n ih => cases l with
    | nil => simp at hn
    | cons a l => exact ih (by simpa using hn) h
/-- 'vs' laid over the list from 'o' on. -/
def lay (l : List α) (o : Nat) (vs : List α) : List α := l.take o ++ vs ++ l.drop (o + vs.length)
theorem putF_iff {l : List α} {o : Nat} {vs : List α} {k : List α → Prop} (h : putF l o vs k) : o + vs.length ≤ l.length ∧ k (lay l o vs) := by
  induction l generalizing o vs k with
  | nil => cases o with
    | zero => cases vs with
      | nil => exact ⟨by simp, by simpa [putF, lay] using h⟩
      | cons v vs => exact h.elim
    | succ o => cases vs <;> exact h.elim
  | cons a l ih => cases o with
    | zero => cases vs with
      | nil => exact ⟨by simp, by simpa [putF, lay] using h⟩
      | cons v vs =>
        have := ih (k := fun l' => k (v :: l')) h
        exact ⟨by simp at this ⊢; omega, by simpa [lay] using this.2⟩
    | succ o =>
      have hh : putF l o vs fun l' => k (a :: l') := by cases vs <;> exact h
      have := ih hh
      refine ⟨by simp at this ⊢; omega, ?_⟩
      have e : o + 1 + vs.length = (o + vs.length) + 1 := by omega
      simpa [lay, e] using this.2
theorem putF_of {l : List α} {o : Nat} {vs : List α} {k : List α → Prop} (hn : o + vs.length ≤ l.length) (h : k (lay l o vs)) : putF l o vs k := by
  induction l generalizing o vs k with
  | nil => cases o with
    | zero => cases vs with
      | nil => simpa [putF, lay] using h
      | cons v vs => simp at hn
    | succ o => simp at hn
  | cons a l ih => cases o with
    | zero => cases vs with
      | nil => simpa [putF, lay] using h
      | cons v vs => exact ih (k := fun l' => k (v :: l')) (by simp at hn ⊢; omega) (by simpa [lay] using h)
    | succ o =>
      have hh : putF l o vs fun l' => k (a :: l') := ih (by simp at hn ⊢; omega) (by
        have e : o + 1 + vs.length = (o + vs.length) + 1 := by omega
        simpa [lay, e] using h)
      cases vs <;> exact hh
theorem lay_length {l : List α} {o : Nat} {vs : List α} (h : o + vs.length ≤ l.length) : (lay l o vs).length = l.length := by
  simp [lay]; omega
theorem newF_iff {l : List Blk} {b : Blk} {ns : List Nat} {k : Nat → List Blk → Prop} (h : newF l b ns k) : ∃ n, ns[l.length]? = some n ∧ k n (l ++ [b]) := by
  induction l generalizing ns k with
  | nil => cases ns with
    | nil => exact h.elim
    | cons n ns => exact ⟨n, rfl, h⟩
  | cons a l ih => cases ns with
    | nil => exact h.elim
    | cons m ns => obtain ⟨n, hn, hk⟩ := ih (k := fun n l' => k n (a :: l')) h; exact ⟨n, by simpa using hn, hk⟩
theorem nums_eq : nums = List.range 64 := by decide
theorem newF_nums {l : List Blk} {b : Blk} {k : Nat → List Blk → Prop} (h : newF l b nums k) : k l.length (l ++ [b]) := by
  obtain ⟨n, hn, hk⟩ := newF_iff h
  rw [nums_eq, List.getElem?_range] at hn
  · cases hn; exact hk
  · have := (List.getElem?_eq_some_iff.1 hn).1; simpa using this
end lists

theorem VRs.lay {μ : List Nat} {l l' vs vs' : List Value} (h : VRs μ l l') (hv : VRs μ vs vs') (o : Nat) : VRs μ (lay l o vs) (Aw.lay l' o vs') := by
  unfold Aw.lay
  rw [← hv.1]
  exact ((h.take o).append hv).append (h.drop _)

theorem req_iff {b : Bool} {k : Unit → Prop} (h : Req b k) : b = true ∧ k () := by
  cases b with
  | false => exact False.elim h
  | true => exact ⟨rfl, h⟩
theorem bif_iff {b : Bool} {p q : Unit → Prop} (h : Bif b p q) : (b = true ∧ p ()) ∨ (b = false ∧ q ()) := by
  cases b with
  | false => exact .inr ⟨rfl, h⟩
  | true => exact .inl ⟨rfl, h⟩

/-! ### What is known of the types -/
structure TabOk (P : Program) (T : Tab) : Prop where
  und : ∀ (t : Nat) (i : TInf), T[t]? = some (some i) → P.underlying t = some i.desc
  info : ∀ (t : Nat) (i : TInf), T[t]? = some (some i) → ∃ (f : TypeInfo) (z : Value), P.info? t = some f ∧ f.size = i.size ∧ f.bytes = i.bytes ∧ f.zero = some z ∧ z.cells.toList = i.zero
  zero : ∀ (t : Nat) (i : TInf), T[t]? = some (some i) → ∀ μ, VRs μ i.zero i.zero
  eq : ∀ (t : Nat) (i : TInf), T[t]? = some (some i) → i.eqok = true → P.eqGuardType P.depth t = false ∧ P.stoodInHeld t = false
  flds : ∀ (t : Nat) (i : TInf) (fs : Array Field), T[t]? = some (some i) → i.desc = .struct fs → ∀ f ∈ fs, (P.info? f.type).isSome = true
  mixed : P.follows .mixedOrders = true

section
variable {P : Program} {T : Tab} {μ : List Nat}

theorem tinfF_iff {t : TypeId} {k : TInf → Prop} (h : tinfF T t k) : ∃ i, T[t]? = some (some i) ∧ k i := by
  obtain ⟨o, ho, hk⟩ := getF_iff h
  cases o with
  | none => exact hk.elim
  | some i => exact ⟨i, ho, hk⟩

theorem TabOk.sizeOf (hT : TabOk P T) {t : Nat} {i : TInf} (h : T[t]? = some (some i)) (w : World) : (sizeOf t).run P w = .ok i.size w := by
  obtain ⟨f, z, hf, hs, _⟩ := hT.info t i h
  simp [Go.sizeOf, typeInfo, hf, hs]
theorem TabOk.cellsOf (hT : TabOk P T) {t : Nat} {i : TInf} (h : T[t]? = some (some i)) : P.cellsOf t = i.size := by
  obtain ⟨f, z, hf, hs, _⟩ := hT.info t i h
  simp [Program.cellsOf, hf, hs]
theorem TabOk.underlying (hT : TabOk P T) {t : Nat} {i : TInf} (h : T[t]? = some (some i)) (w : World) : (underlying t).run P w = .ok i.desc w := run_underlying (hT.und t i h) w
theorem TabOk.isAgg (hT : TabOk P T) {t : Nat} {i : TInf} (h : T[t]? = some (some i)) (w : World) : (isAgg t).run P w = .ok (isAggD i.desc) w := by
  unfold Go.isAgg
  rw [Sem.run_bind, hT.underlying h w, Result.andThen_ok]
  cases i.desc <;> rfl

theorem part_sound (hT : TabOk P T) {t : TypeId} {cs cs' : List Value} {off : Nat} {k : VK} (h : partF T t cs off k) (hc : VRs μ cs cs') :
    ∃ v cv, k v ∧ VR μ v cv ∧ ∀ w, (part t cs'.toArray off).run P w = .ok cv w := by
  obtain ⟨i, hi, hk⟩ := tinfF_iff h
  cases ha : isAggD i.desc with
  | true =>
    simp only [ha] at hk
    obtain ⟨h1, hk⟩ := dropF_iff hk
    obtain ⟨h2, hk⟩ := takeF_iff hk
    refine ⟨_, .agg ((cs'.drop off).take i.size).toArray, hk, VR.aggs ((hc.drop off).take _), fun w => ?_⟩
    simp [part, hT.isAgg hi w, ha, hT.sizeOf hi w]
  | false =>
    simp only [ha] at hk
    obtain ⟨v, hv, hk⟩ := getF_iff hk
    obtain ⟨cv, hcv, hr⟩ := hc.get hv
    refine ⟨v, cv, hk, hr, fun w => ?_⟩
    have e : cs'.toArray[off]? = some cv := by simpa using hcv
    simp [part, hT.isAgg hi w, ha, e]

/-! ### Loads -/
/-- The cells from (b, o) on. -/
def CellsAt (b o : Nat) (l : List Value) (w : World) : Prop := ∀ (j : Nat) (x : Value), l[j]? = some x → w.cell? ⟨b, o + j, none⟩ = some x

theorem add_lit (b o n : Nat) : (⟨b, o, none⟩ : Addr).add n = ⟨b, o + n, none⟩ := by unfold Addr.add; split <;> simp_all

/-- The cells of a loaded value. -/
def ldl (T : Tab) (t : TypeId) (v : Value) : List Value :=
  match T[t]? with
  | some (some j) => if isAggD j.desc then v.cells.toList else [v]
  | _ => []

/-- The heap tells 'v' at (i, o), at type 't'. -/
structure LdOk (T : Tab) (H : List Blk) (t : TypeId) (i o : Nat) (v : Value) : Prop where
  shape : ∃ j, T[t]? = some (some j) ∧ (isAggD j.desc = true → ∃ l : List Value, v = .agg l.toArray ∧ l.length = j.size)
  cells : ∀ (μ : List Nat) (w : World) (b : Nat), Rel μ H w → μ[i]? = some b → ∃ l', VRs μ (ldl T t v) l' ∧ CellsAt b o l' w

theorem roF_iff {f : Nat → Option Value} {n o : Nat} {k : List Value → Prop} (h : loadF.roF f o n k) : ∃ l : List Value, l.length = n ∧ (∀ j x, l[j]? = some x → f (o + j) = some x) ∧ k l := by
  induction n generalizing o k with
  | zero => exact ⟨[], rfl, by simp, h⟩
  | succ n ih =>
    unfold loadF.roF at h
    obtain ⟨v, hf, h⟩ := h
    obtain ⟨l, hl, hx, hk⟩ := ih h
    refine ⟨v :: l, by simp [hl], fun j x hj => ?_, hk⟩
    cases j with
    | zero => simp at hj; subst hj; simpa using hf
    | succ j => simp at hj; rw [show o + (j + 1) = o + 1 + j by omega]; exact hx j x hj

theorem load_sound {H : List Blk} {t : TypeId} {a : Value} {k : VK} (h : loadF T H t a k) : ∃ i o v, a = .pointer (some ⟨i, o, none⟩) ∧ k v ∧ LdOk T H t i o v := by
  unfold loadF at h
  split at h
  · rename_i i o
    obtain ⟨b, hb, hk⟩ := getF_iff h
    refine ⟨i, o, ?_⟩
    cases b with
    | cells c e =>
      obtain ⟨j, hj, hk⟩ := tinfF_iff hk
      cases ha : isAggD j.desc with
      | true =>
        simp only [ha] at hk
        obtain ⟨h1, hk⟩ := dropF_iff hk
        obtain ⟨h2, hk⟩ := takeF_iff hk
        refine ⟨_, rfl, hk, ⟨j, hj, fun _ => ⟨_, rfl, by simp at h2 ⊢; omega⟩⟩, fun μ w b hr hμ => ?_⟩
        obtain ⟨c', hw, hc⟩ := hr.blk i b c e hb hμ
        refine ⟨(c'.drop o).take j.size, by simpa [ldl, hj, ha, Value.cells] using (hc.drop o).take _, fun m x hx => ?_⟩
        rw [cell_of_row w b _ _ e _ hw]
        rw [List.getElem?_take] at hx
        split at hx
        · rw [List.getElem?_drop] at hx; simpa using hx
        · cases hx
      | false =>
        simp only [ha] at hk
        obtain ⟨v, hv, hk⟩ := getF_iff hk
        refine ⟨v, rfl, hk, ⟨j, hj, fun h => by simp [ha] at h⟩, fun μ w b hr hμ => ?_⟩
        obtain ⟨c', hw, hc⟩ := hr.blk i b c e hb hμ
        obtain ⟨cv, hcv, hvr⟩ := hc.get hv
        refine ⟨[cv], by simpa [ldl, hj, ha] using VRs.cons hvr VRs.nil, fun m x hx => ?_⟩
        rw [cell_of_row w b _ _ e _ hw]
        cases m with
        | zero => simp at hx; subst hx; simpa using hcv
        | succ m => simp at hx
    | ro f =>
      obtain ⟨j, hj, hk⟩ := tinfF_iff hk
      cases ha : isAggD j.desc with
      | true =>
        simp only [ha] at hk
        obtain ⟨l, hl, hx, hk⟩ := roF_iff hk
        refine ⟨_, rfl, hk, ⟨j, hj, fun _ => ⟨l, rfl, hl⟩⟩, fun μ w b hr hμ => ?_⟩
        have hx' : ∀ m, m < l.length → ∃ y, w.cell? ⟨b, o + m, none⟩ = some y ∧ ∀ x, l[m]? = some x → VR μ x y := fun m hm => by
          obtain ⟨y, hy, hv⟩ := hr.rob i b f hb hμ (o + m) _ (hx m _ (List.getElem?_eq_getElem hm))
          exact ⟨y, hy, fun x hx => by rw [List.getElem?_eq_getElem hm] at hx; cases hx; exact hv⟩
        refine ⟨(List.range l.length).map fun m => (w.cell? ⟨b, o + m, none⟩).getD undef, ?_, fun m x hm => ?_⟩
        · refine ⟨by simp [ldl, hj, ha, Value.cells], fun m x y hm hy => ?_⟩
          have hml : m < l.length := by have := (List.getElem?_eq_some_iff.1 hy).1; simpa using this
          obtain ⟨y', hy', hv⟩ := hx' m hml
          simp only [List.getElem?_map, List.getElem?_range hml, Option.map_some, hy', Option.getD_some, Option.some.injEq] at hy
          subst hy
          exact hv x (by simpa [ldl, hj, ha, Value.cells] using hm)
        · have hml : m < l.length := by have := (List.getElem?_eq_some_iff.1 hm).1; simpa using this
          obtain ⟨y', hy', hv⟩ := hx' m hml
          simp only [List.getElem?_map, List.getElem?_range hml, Option.map_some, hy', Option.getD_some, Option.some.injEq] at hm
          subst hm
          exact hy'
      | false =>
        simp only [ha] at hk
        obtain ⟨v, hf, hk⟩ := hk
        refine ⟨v, rfl, hk, ⟨j, hj, fun h => by simp [ha] at h⟩, fun μ w b hr hμ => ?_⟩
        obtain ⟨y, hy, hv⟩ := hr.rob i b f hb hμ o v hf
        refine ⟨[y], by simpa [ldl, hj, ha] using VRs.cons hv VRs.nil, fun m x hx => ?_⟩
        cases m with
        | zero => simp at hx; subst hx; simpa using hy
        | succ m => simp at hx
    | gone => exact hk.elim
  · exact h.elim

theorem ld_run (hT : TabOk P T) {H : List Blk} {t : TypeId} {i o b : Nat} {v : Value} (h : LdOk T H t i o v) {l' : List Value} (hl : VRs μ (ldl T t v) l') :
    ∃ cv, VR μ v cv ∧ ∀ w, CellsAt b o l' w → (loadVar t ⟨b, o, none⟩).run P w = .ok cv w := by
  obtain ⟨j, hj, hs⟩ := h.shape
  cases ha : isAggD j.desc with
  | true =>
    obtain ⟨l, rfl, hlen⟩ := hs ha
    simp only [ldl, hj, ha, if_true, Value.cells] at hl
    refine ⟨.agg l'.toArray, VR.aggs (by simpa using hl), fun w hw => ?_⟩
    have hl2 : l'.length = j.size := by rw [← hl.1]; simpa using hlen
    have := run_loadCells_list (P := P) w ⟨b, o, none⟩ l' (fun m x hx => by rw [add_lit]; exact hw m x hx)
    rw [hl2] at this
    simp [loadVar, hT.isAgg hj w, ha, hT.sizeOf hj w, this]
  | false =>
    simp only [ldl, hj, ha, Bool.false_eq_true, if_false] at hl
    obtain ⟨y, hy, hv⟩ := hl.get (i := 0) rfl
    refine ⟨y, hv, fun w hw => ?_⟩
    have := hw 0 y hy
    simp only [Nat.add_zero] at this
    simp [loadVar, hT.isAgg hj w, ha, run_load, this]

end
end Go.Aw
