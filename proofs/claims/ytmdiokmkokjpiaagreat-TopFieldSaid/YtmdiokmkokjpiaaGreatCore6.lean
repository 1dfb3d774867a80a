/-
  The operations that only compute or read, all of them.
-/
import Derived.Test.YtmdiokmkokjpiaaGreatCore5
set_option linter.all false
set_option linter.unusedVariables false
set_option linter.unusedSimpArgs false
set_option linter.unnecessarySimpa false
namespace Go.Aw

/-- A value without pointers. -/
def okv : Nat → Value → Bool
  | 0, _ => false
  | n + 1, v => match v with
    | .bool _ | .int _ _ | .string _ | .pointer none | .slice none _ _ | .nilFunc | .nilIface => true
    | .agg cs => cs.toList.all (okv n)
    | .tuple cs => cs.toList.all (okv n)
    | .func (.func _) a c => a.toList.all (okv n) && c.toList.all (okv n)
    | .iface _ v => okv n v
    | _ => false

theorem okv_sound : ∀ (n : Nat) (v : Value), okv n v = true → ∀ μ, VR μ v v
  | 0, v, h, _ => by simp [okv] at h
  | n + 1, v, h, μ => by
    have all : ∀ cs : Array Value, cs.toList.all (okv n) = true → ∀ (i : Nat) (x y : Value), cs[i]? = some x → cs[i]? = some y → VR μ x y := fun cs hc i x y hx hy => by
      rw [hx] at hy; cases hy
      have hm : x ∈ cs.toList := Array.mem_toList_iff.2 (Array.mem_of_getElem? hx)
      exact okv_sound n x ((List.all_eq_true.1 hc) x hm) μ
    unfold okv at h
    split at h
    · exact .bool _
    · exact .int _ _
    · exact .str _
    · exact .ptrN
    · exact .slN _ _
    · exact .nilF
    · exact .nilI
    · exact .agg _ _ rfl (all _ h)
    · exact .tup _ _ rfl (all _ h)
    · simp only [Bool.and_eq_true] at h
      exact .fn _ _ _ _ _ rfl rfl (all _ h.1) (all _ h.2)
    · exact .ifc _ _ _ (okv_sound n _ h μ)
    · simp at h

theorem okvs_sound {l : List Value} {n : Nat} (h : l.all (okv n) = true) (μ : List Nat) : VRs μ l l :=
  ⟨rfl, fun i x y hx hy => by rw [hx] at hy; cases hy; exact okv_sound n x ((List.all_eq_true.1 h) x (List.mem_of_getElem? hx)) μ⟩

def opOk : Operand → Bool
  | .const v => okv 6 v
  | .global _ => false
  | _ => true

def opV (ts : List Value) : Operand → Option Value
  | .tmp i => (ts[i]?).bind fun v => match v with | .chan _ => none | v => some v
  | .const v => some v
  | .func f => some (.func (.func f) #[] #[])
  | .global _ => none

section
variable {P : Program} {T : Tab} {μ : List Nat} {ts : List Value} {a : Act}

theorem ev_iff {x : Operand} {k : VK} (h : evF ts x k) : ∃ v, opV ts x = some v ∧ k v := by
  cases x with
  | tmp i =>
    obtain ⟨v, hv, h⟩ := getF_iff h
    refine ⟨v, ?_, (sure_iff h).2⟩
    unfold sureF at h
    simp only [opV, hv, Option.bind_some]
    split at h
    · exact False.elim h
    · rename_i hc
      cases v <;> first | rfl | exact absurd rfl (hc _)
  | const v => exact ⟨v, rfl, h⟩
  | func f => exact ⟨_, rfl, h⟩
  | global g => exact False.elim h

theorem opV_sound (hv : SRs μ ts a.tmps.toList) {x : Operand} (ho : opOk x = true) {v : Value} (h : opV ts x = some v) : VR μ v (a.eval x) := by
  cases x with
  | tmp i =>
    simp only [opV] at h
    cases hx : ts[i]? with
    | none => rw [hx] at h; simp at h
    | some u =>
      rw [hx, Option.bind_some] at h
      have hu : u = v ∧ v ≠ junk := by
        cases u <;> first | (cases h; exact ⟨rfl, fun e => by cases e⟩) | cases h
      obtain ⟨rfl, hj⟩ := hu
      obtain ⟨y, hy, hr⟩ := hv.get hx
      have : a.tmps[i]? = some y := by simpa using hy
      simpa [Act.eval, this] using sure_of hj hr
  | const c => simp only [opV, Option.some.injEq] at h; subst h; exact okv_sound 6 _ ho μ
  | func f =>
    simp only [opV, Option.some.injEq] at h; subst h
    exact .fn f _ _ _ _ rfl rfl (fun i x y h _ => by simp at h) (fun i x y h _ => by simp at h)
  | global g => simp [opV] at h

theorem ev_sound (hv : SRs μ ts a.tmps.toList) {x : Operand} {k : VK} (h : evF ts x k) (ho : opOk x = true) : ∃ v, k v ∧ VR μ v (a.eval x) := by
  obtain ⟨v, h1, h2⟩ := ev_iff h
  exact ⟨v, h2, opV_sound hv ho h1⟩

theorem evs_sound (hv : SRs μ ts a.tmps.toList) : ∀ (xs : List Operand) {k : List Value → Prop}, evsF ts xs k → xs.all opOk = true → ∃ vs, k vs ∧ VRs μ vs (xs.map a.eval)
  | [], k, h, _ => ⟨[], h, VRs.nil⟩
  | x :: xs, k, h, ho => by
    simp only [List.all_cons, Bool.and_eq_true] at ho
    obtain ⟨v, h, r⟩ := ev_sound hv h ho.1
    obtain ⟨vs, h, rs⟩ := evs_sound hv xs h ho.2
    exact ⟨v :: vs, h, VRs.cons r rs⟩

/-- Parts of a composite value. -/
def VRp (μ : List Nat) : List (Nat × Value) → List (Nat × Value) → Prop
  | [], [] => True
  | (i, v) :: l, (j, w) :: m => i = j ∧ VR μ v w ∧ VRp μ l m
  | _, _ => False

theorem evp_sound (hv : SRs μ ts a.tmps.toList) : ∀ (xs : List (Nat × Operand)) {k : List (Nat × Value) → Prop}, evpF ts xs k → (xs.map (·.2)).all opOk = true → ∃ vs, k vs ∧ VRp μ vs (xs.map fun p => (p.1, a.eval p.2))
  | [], k, h, _ => ⟨[], h, trivial⟩
  | (i, x) :: xs, k, h, ho => by
    simp only [List.map_cons, List.all_cons, Bool.and_eq_true] at ho
    obtain ⟨v, h, r⟩ := ev_sound hv h ho.1
    obtain ⟨vs, h, rs⟩ := evp_sound hv xs h ho.2
    exact ⟨_, h, rfl, r, rs⟩

theorem evo_sound (hv : SRs μ ts a.tmps.toList) (x : Option Operand) {k : Option Value → Prop} (h : evoF ts x k) (ho : x.toList.all opOk = true) :
    ∃ v : Option Value, k v ∧ ((v = none ∧ x.map a.eval = none) ∨ ∃ y cy, v = some y ∧ x.map a.eval = some cy ∧ VR μ y cy) := by
  cases x with
  | none => exact ⟨none, h, .inl ⟨rfl, rfl⟩⟩
  | some x =>
    obtain ⟨v, h, r⟩ := ev_sound hv h (by simpa using ho)
    exact ⟨some v, h, .inr ⟨v, _, rfl, rfl, r⟩⟩

/-! ### Composite values -/
theorem lay_step (v : Value) (vs : List Value) : ∀ (o : Nat) (cs : List Value), o < cs.length → lay (cs.set o v) (o + 1) vs = lay cs o (v :: vs)
  | _, [], h => by simp at h
  | 0, c :: cs, _ => by simp [lay, Nat.add_comm 1]
  | o + 1, c :: cs, h => by
    have ih := lay_step v vs o cs (by simpa using h)
    unfold lay at ih ⊢
    simp only [List.set_cons_succ, List.take_succ_cons, List.length_cons, List.cons_append] at ih ⊢
    rw [show o + 1 + 1 + vs.length = (o + 1 + vs.length) + 1 by omega, show o + 1 + (vs.length + 1) = (o + (vs.length + 1)) + 1 by omega, List.drop_succ_cons, List.drop_succ_cons]
    exact congrArg _ ih

theorem fold_lay (o : Nat) : ∀ (vs : List Value) (n : Nat) (cs : Array Value), o + n + vs.length ≤ cs.size →
    ((vs.zipIdx n).foldl (fun cs (x : Value × Nat) => cs.setIfInBounds (o + x.2) x.1) cs).toList = lay cs.toList (o + n) vs
  | [], n, cs, _ => by simp [lay]
  | v :: vs, n, cs, h => by
    simp only [List.zipIdx_cons, List.foldl_cons]
    rw [fold_lay o vs (n + 1) _ (by simp at h ⊢; omega)]
    simp only [Array.toList_setIfInBounds]
    rw [show o + (n + 1) = o + n + 1 by omega]
    exact lay_step _ _ _ _ (by simp at h ⊢; omega)

theorem fill_sound {place : Nat → (Nat × Nat → Prop) → Prop} {plc : Nat → Option (Nat × Nat)} (hp : ∀ i k, place i k → ∃ p, plc i = some p ∧ k p) :
    ∀ (ps ps' : List (Nat × Value)) (cs cs' : List Value) (k : List Value → Prop), fillF place ps cs k → VRp μ ps ps' → VRs μ cs cs' →
      ∃ r r', k r ∧ VRs μ r r' ∧ Instr.fill plc cs'.toArray ps' = some r'.toArray
  | [], [], cs, cs', k, h, _, hc => ⟨cs, cs', h, hc, rfl⟩
  | (i, v) :: ps, (j, w) :: ps', cs, cs', k, h, hv, hc => by
    obtain ⟨rfl, hvw, hrest⟩ := hv
    unfold fillF at h
    obtain ⟨p, hpl, h⟩ := hp _ _ h
    obtain ⟨hlen, h⟩ := req_iff h
    have hlen := Nat.eq_of_beq_eq_true hlen
    obtain ⟨hle, h⟩ := putF_iff h
    have hcl := hvw.cells
    have hwl : w.cells.size = p.2 := by have := hcl.1; simp at this hlen; omega
    obtain ⟨r, r', hk, hr, hf⟩ := fill_sound hp ps ps' _ _ k h hrest (hc.lay hcl p.1)
    refine ⟨r, r', hk, hr, ?_⟩
    unfold Instr.fill
    have hle' : ¬ p.1 + w.cells.size > cs'.length := by have := hc.1; have := hcl.1; simp at this hle; omega
    simp only [hpl, hwl, ne_eq, not_true_eq_false, List.size_toArray, decide_false, Bool.false_or]
    rw [hwl] at hle'
    have e := fold_lay p.1 w.cells.toList 0 cs'.toArray (by simp; omega)
    simp only [Nat.add_zero] at e
    have e2 : (Array.foldl (fun cs (x : Value × Nat) => cs.setIfInBounds (p.1 + x.2) x.1) cs'.toArray w.cells.zipIdx) = (lay cs' p.1 w.cells.toList).toArray := by
      apply Array.ext'
      rw [← Array.foldl_toList, Array.toList_zipIdx]
      simpa using e
    simp only [hle', decide_false, Bool.false_eq_true, if_false]
    rw [show (fun cs x => match x with | (c, j) => Array.setIfInBounds cs (p.1 + j) c) = (fun (cs : Array Value) (x : Value × Nat) => cs.setIfInBounds (p.1 + x.2) x.1) from rfl, e2]
    exact hf

end
end Go.Aw
