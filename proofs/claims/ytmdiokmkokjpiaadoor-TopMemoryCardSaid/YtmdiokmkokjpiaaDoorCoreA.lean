/-
  Walks through the functions of the program, by contract.
-/
import Derived.Orders
import Derived.Laws.Entries
import Derived.Laws.Cells
import Derived.Laws.CopyRow
import Derived.Laws.Rows
import Derived.KernelRfl
import Derived.OrdersHeld
import Derived.Laws.StructEq
import Derived.ChangeKeysEq
import Derived.Laws.Strings
set_option linter.all false
set_option linter.unusedVariables false
set_option linter.unusedSimpArgs false
set_option linter.unnecessarySimpa false
section
/-
  Abstract heaps: values up to a naming of blocks ('VR'), a world that holds a named heap ('Rel'), and what a run leaves alone ('Ext').
-/
set_option linter.unusedSectionVars false
namespace Go.Aw

/-- A value whose pointers name blocks, and the value that it stands for where the name 'i' is the block 'μ[i]'. -/
inductive VR (μ : List Nat) : Value → Value → Prop
  | bool (b : Bool) : VR μ (.bool b) (.bool b)
  | int (k : IntKind) (n : Int) : VR μ (.int k n) (.int k n)
  | str (s : ByteArray) : VR μ (.string s) (.string s)
  | ptrN : VR μ (.pointer none) (.pointer none)
  | ptr (i b o : Nat) (h : μ[i]? = some b) : VR μ (.pointer (some ⟨i, o, none⟩)) (.pointer (some ⟨b, o, none⟩))
  | slN (l c : Nat) : VR μ (.slice none l c) (.slice none l c)
  | sl (i b o l c : Nat) (h : μ[i]? = some b) : VR μ (.slice (some ⟨i, o, none⟩) l c) (.slice (some ⟨b, o, none⟩) l c)
  | fn (f : FuncId) (a a' c c' : Array Value) (ha : a.size = a'.size) (hc : c.size = c'.size)
      (ra : ∀ (i : Nat) (x y : Value), a[i]? = some x → a'[i]? = some y → VR μ x y) (rc : ∀ (i : Nat) (x y : Value), c[i]? = some x → c'[i]? = some y → VR μ x y) :
      VR μ (.func (.func f) a c) (.func (.func f) a' c')
  | nilF : VR μ .nilFunc .nilFunc
  | nilI : VR μ .nilIface .nilIface
  | ifc (t : TypeId) (v v' : Value) (h : VR μ v v') : VR μ (.iface t v) (.iface t v')
  | agg (c c' : Array Value) (hc : c.size = c'.size) (rc : ∀ (i : Nat) (x y : Value), c[i]? = some x → c'[i]? = some y → VR μ x y) : VR μ (.agg c) (.agg c')
  | tup (c c' : Array Value) (hc : c.size = c'.size) (rc : ∀ (i : Nat) (x y : Value), c[i]? = some x → c'[i]? = some y → VR μ x y) : VR μ (.tuple c) (.tuple c')

/-- Lists of them. -/
def VRs (μ : List Nat) (l l' : List Value) : Prop := l.length = l'.length ∧ ∀ (i : Nat) (x y : Value), l[i]? = some x → l'[i]? = some y → VR μ x y

theorem VR.mono {μ ν : List Nat} (hp : ∀ (i b : Nat), μ[i]? = some b → ν[i]? = some b) {v v' : Value} (h : VR μ v v') : VR ν v v' := by
  induction h with
  | bool b => exact .bool b
  | int k n => exact .int k n
  | str s => exact .str s
  | ptrN => exact .ptrN
  | ptr i b o h => exact .ptr i b o (hp _ _ h)
  | slN l c => exact .slN l c
  | sl i b o l c h => exact .sl i b o l c (hp _ _ h)
  | fn f a a' c c' ha hc _ _ ra rc => exact .fn f a a' c c' ha hc ra rc
  | nilF => exact .nilF
  | nilI => exact .nilI
  | ifc t v v' _ ih => exact .ifc t v v' ih
  | agg c c' hc _ rc => exact .agg c c' hc rc
  | tup c c' hc _ rc => exact .tup c c' hc rc

theorem VRs.mono {μ ν : List Nat} (hp : ∀ (i b : Nat), μ[i]? = some b → ν[i]? = some b) {l l' : List Value} (h : VRs μ l l') : VRs ν l l' :=
  ⟨h.1, fun i x y hx hy => (h.2 i x y hx hy).mono hp⟩

theorem arr_ext {c' c'' : Array Value} (hs : c'.size = c''.size) (h : ∀ (i : Nat) (x y : Value), c'[i]? = some x → c''[i]? = some y → x = y) : c' = c'' := by
  apply Array.ext hs
  intro i h1 h2
  exact h i _ _ (Array.getElem?_eq_getElem h1) (Array.getElem?_eq_getElem h2)

theorem VR.functional {μ : List Nat} {v v' : Value} (h : VR μ v v') : ∀ v'' : Value, VR μ v v'' → v' = v'' := by
  induction h with
  | bool b => intro _ k; cases k; rfl
  | int k n => intro _ k; cases k; rfl
  | str s => intro _ k; cases k; rfl
  | ptrN => intro _ k; cases k; rfl
  | ptr i b o h => intro _ k; cases k with | ptr _ b' _ h' => rw [h] at h'; cases h'; rfl
  | slN l c => intro _ k; cases k; rfl
  | sl i b o l c h => intro _ k; cases k with | sl _ b' _ _ _ h' => rw [h] at h'; cases h'; rfl
  | fn f a a' c c' ha hc ra rc iha ihc =>
    intro _ k
    cases k with
    | fn _ _ a'' _ c'' ha' hc' ra' rc' =>
      have e1 : a' = a'' := arr_ext (by omega) fun i x y hx hy => by
        have hi : i < a.size := by have := (Array.getElem?_eq_some_iff.1 hx).1; omega
        exact iha i _ x (Array.getElem?_eq_getElem hi) hx y (ra' i _ y (Array.getElem?_eq_getElem hi) hy)
      have e2 : c' = c'' := arr_ext (by omega) fun i x y hx hy => by
        have hi : i < c.size := by have := (Array.getElem?_eq_some_iff.1 hx).1; omega
        exact ihc i _ x (Array.getElem?_eq_getElem hi) hx y (rc' i _ y (Array.getElem?_eq_getElem hi) hy)
      rw [e1, e2]
  | nilF => intro _ k; cases k; rfl
  | nilI => intro _ k; cases k; rfl
  | ifc t v v' _ ih => intro _ k; cases k with | ifc _ _ w h' => rw [ih _ h']
  | agg c c' hc rc ihc =>
    intro _ k
    cases k with
    | agg _ c'' hc' rc' =>
      have e2 : c' = c'' := arr_ext (by omega) fun i x y hx hy => by
        have hi : i < c.size := by have := (Array.getElem?_eq_some_iff.1 hx).1; omega
        exact ihc i _ x (Array.getElem?_eq_getElem hi) hx y (rc' i _ y (Array.getElem?_eq_getElem hi) hy)
      rw [e2]
  | tup c c' hc rc ihc =>
    intro _ k
    cases k with
    | tup _ c'' hc' rc' =>
      have e2 : c' = c'' := arr_ext (by omega) fun i x y hx hy => by
        have hi : i < c.size := by have := (Array.getElem?_eq_some_iff.1 hx).1; omega
        exact ihc i _ x (Array.getElem?_eq_getElem hi) hx y (rc' i _ y (Array.getElem?_eq_getElem hi) hy)
      rw [e2]

theorem VRs.functional {μ : List Nat} {l l' l'' : List Value} (h : VRs μ l l') (k : VRs μ l l'') : l' = l'' := by
  apply List.ext_getElem (by rw [← h.1, ← k.1])
  intro i h1 h2
  have hi : i < l.length := by rw [h.1]; exact h1
  exact (h.2 i _ _ (List.getElem?_eq_getElem hi) (List.getElem?_eq_getElem h1)).functional _ (k.2 i _ _ (List.getElem?_eq_getElem hi) (List.getElem?_eq_getElem h2))

section lists
variable {μ : List Nat}
theorem VRs.nil : VRs μ [] [] := ⟨rfl, fun i x y h _ => by simp at h⟩
theorem VRs.get {l l' : List Value} (h : VRs μ l l') {i : Nat} {x : Value} (hx : l[i]? = some x) : ∃ y, l'[i]? = some y ∧ VR μ x y := by
  have hi : i < l.length := (List.getElem?_eq_some_iff.1 hx).1
  have hi' : i < l'.length := by rw [← h.1]; exact hi
  exact ⟨_, List.getElem?_eq_getElem hi', h.2 i x _ hx (List.getElem?_eq_getElem hi')⟩
theorem VRs.none {l l' : List Value} (h : VRs μ l l') {i : Nat} (hx : l[i]? = none) : l'[i]? = none := by
  rw [List.getElem?_eq_none_iff] at *; rw [← h.1]; exact hx
theorem VRs.cons {x y : Value} {l l' : List Value} (h : VR μ x y) (hl : VRs μ l l') : VRs μ (x :: l) (y :: l') := by
  refine ⟨by simp [hl.1], fun i a b ha hb => ?_⟩
  cases i with
  | zero => simp at ha hb; subst ha; subst hb; exact h
  | succ i => simp at ha hb; exact hl.2 i a b ha hb
theorem VRs.append {a a' b b' : List Value} (h : VRs μ a a') (k : VRs μ b b') : VRs μ (a ++ b) (a' ++ b') := by
  refine ⟨by simp [h.1, k.1], fun i x y hx hy => ?_⟩
  rw [List.getElem?_append] at hx hy
  rw [← h.1] at hy
  split at hx
  · rename_i hlt; rw [if_pos hlt] at hy; exact h.2 i x y hx hy
  · rename_i hlt; rw [if_neg hlt] at hy; exact k.2 _ x y hx hy
theorem VRs.set {l l' : List Value} (h : VRs μ l l') (i : Nat) {x y : Value} (hxy : VR μ x y) : VRs μ (l.set i x) (l'.set i y) := by
  refine ⟨by simp [h.1], fun j a b ha hb => ?_⟩
  rw [List.getElem?_set] at ha hb
  rw [← h.1] at hb
  split at ha
  · rename_i hij
    rw [if_pos hij] at hb
    split at ha
    · rename_i hl; rw [if_pos hl] at hb; cases ha; cases hb; exact hxy
    · cases ha
  · rename_i hij; rw [if_neg hij] at hb; exact h.2 j a b ha hb
theorem VRs.take {l l' : List Value} (h : VRs μ l l') (n : Nat) : VRs μ (l.take n) (l'.take n) := by
  refine ⟨by simp [h.1], fun j a b ha hb => ?_⟩
  rw [List.getElem?_take] at ha hb
  split at ha
  · rename_i hl; rw [if_pos hl] at hb; exact h.2 j a b ha hb
  · cases ha
theorem VRs.drop {l l' : List Value} (h : VRs μ l l') (n : Nat) : VRs μ (l.drop n) (l'.drop n) := by
  refine ⟨by simp [h.1], fun j a b ha hb => ?_⟩
  rw [List.getElem?_drop] at ha hb
  exact h.2 _ a b ha hb
theorem VRs.replicate (n : Nat) {x y : Value} (h : VR μ x y) : VRs μ (List.replicate n x) (List.replicate n y) := by
  refine ⟨by simp, fun j a b ha hb => ?_⟩
  rw [List.getElem?_replicate] at ha hb
  split at ha
  · rename_i hl; rw [if_pos hl] at hb; cases ha; cases hb; exact h
  · cases ha
theorem VR.undef : VR μ undef undef := .tup #[] #[] rfl fun i x y h _ => by simp at h
theorem VR.aggs {c c' : List Value} (h : VRs μ c c') : VR μ (.agg c.toArray) (.agg c'.toArray) :=
  .agg _ _ (by simpa using h.1) fun i x y hx hy => h.2 i x y (by simpa using hx) (by simpa using hy)
theorem VR.tups {c c' : List Value} (h : VRs μ c c') : VR μ (.tuple c.toArray) (.tuple c'.toArray) :=
  .tup _ _ (by simpa using h.1) fun i x y hx hy => h.2 i x y (by simpa using hx) (by simpa using hy)
theorem VR.of_agg {c : Array Value} {v : Value} (h : VR μ (.agg c) v) : ∃ c' : Array Value, v = .agg c' ∧ VRs μ c.toList c'.toList := by
  cases h with
  | agg _ c' hc rc => exact ⟨c', rfl, by simpa using hc, fun i x y hx hy => rc i x y (by simpa using hx) (by simpa using hy)⟩
theorem VR.of_tup {c : Array Value} {v : Value} (h : VR μ (.tuple c) v) : ∃ c' : Array Value, v = .tuple c' ∧ VRs μ c.toList c'.toList := by
  cases h with
  | tup _ c' hc rc => exact ⟨c', rfl, by simpa using hc, fun i x y hx hy => rc i x y (by simpa using hx) (by simpa using hy)⟩
theorem VR.cells {v v' : Value} (h : VR μ v v') : VRs μ v.cells.toList v'.cells.toList := by
  cases h
  case agg c c' hc rc => exact ⟨by simpa [Value.cells] using hc, fun i x y hx hy => rc i x y (by simpa [Value.cells] using hx) (by simpa [Value.cells] using hy)⟩
  all_goals (refine VRs.cons ?_ VRs.nil; first | exact .bool _ | exact .int _ _ | exact .str _ | exact .ptrN | (exact .ptr _ _ _ ‹_›) | exact .slN _ _ | (exact .sl _ _ _ _ _ ‹_›) | (exact .fn _ _ _ _ _ ‹_› ‹_› ‹_› ‹_›) | exact .nilF | exact .nilI | (exact .ifc _ _ _ ‹_›) | (exact .tup _ _ ‹_› ‹_›))
theorem VR.oneCell {v v' : Value} (h : VR μ v v') : v'.oneCell' = v.oneCell' := by cases h <;> rfl
end lists

/-! ## Frames: a slot of which nothing is known any more holds 'junk' -/
abbrev junk : Value := .chan none
def SR (μ : List Nat) (v cv : Value) : Prop := v = junk ∨ VR μ v cv
def SRs (μ : List Nat) (l l' : List Value) : Prop := l.length = l'.length ∧ ∀ (i : Nat) (x y : Value), l[i]? = some x → l'[i]? = some y → SR μ x y
theorem VRs.sr {μ : List Nat} {l l' : List Value} (h : VRs μ l l') : SRs μ l l' := ⟨h.1, fun i x y hx hy => .inr (h.2 i x y hx hy)⟩
theorem SR.mono {μ ν : List Nat} (hp : ∀ (i b : Nat), μ[i]? = some b → ν[i]? = some b) {v v' : Value} (h : SR μ v v') : SR ν v v' := h.elim .inl fun h => .inr (h.mono hp)
theorem SRs.mono {μ ν : List Nat} (hp : ∀ (i b : Nat), μ[i]? = some b → ν[i]? = some b) {l l' : List Value} (h : SRs μ l l') : SRs ν l l' :=
  ⟨h.1, fun i x y hx hy => (h.2 i x y hx hy).mono hp⟩
theorem SRs.get {μ : List Nat} {l l' : List Value} (h : SRs μ l l') {i : Nat} {x : Value} (hx : l[i]? = some x) : ∃ y, l'[i]? = some y ∧ SR μ x y := by
  have hi : i < l.length := (List.getElem?_eq_some_iff.1 hx).1
  have hi' : i < l'.length := by rw [← h.1]; exact hi
  exact ⟨_, List.getElem?_eq_getElem hi', h.2 i x _ hx (List.getElem?_eq_getElem hi')⟩
theorem SRs.set {μ : List Nat} {l l' : List Value} (h : SRs μ l l') (i : Nat) {x y : Value} (hxy : VR μ x y) : SRs μ (l.set i x) (l'.set i y) := by
  refine ⟨by simp [h.1], fun j a b ha hb => ?_⟩
  rw [List.getElem?_set] at ha hb
  rw [← h.1] at hb
  split at ha
  · rename_i hij
    rw [if_pos hij] at hb
    split at ha
    · rename_i hl; rw [if_pos hl] at hb; cases ha; cases hb; exact .inr hxy
    · cases ha
  · rename_i hij; rw [if_neg hij] at hb; exact h.2 j a b ha hb
/-- What is handed on is known. -/
def sureF (v : Value) (k : Value → Prop) : Prop := match v with | .chan _ => False | v => k v
theorem sure_iff {v : Value} {k : Value → Prop} (h : sureF v k) : v ≠ junk ∧ k v := by
  unfold sureF at h
  split at h
  · exact False.elim h
  · rename_i hv; exact ⟨fun e => hv none e, h⟩
theorem sure_of {v : Value} (hv : v ≠ junk) {μ : List Nat} {cv : Value} (h : SR μ v cv) : VR μ v cv := h.elim (fun e => absurd e hv) id

/-! ## Named heaps -/

/-- A block of a named heap: cells that the run may write; cells that it only reads (known as far as 'f' knows them); a block of which nothing is known any more. -/
inductive Blk where
  | cells (c : List Value) (e : TypeId)
  | ro (f : Nat → Option Value)
  | gone

/-- The world in which the law's call begins. -/
class Base where
  W : World
/-- The blocks that were there at the beginning are as they were, and none of ours is one of them. -/
structure BaseOk [Base] (μ : List Nat) (w : World) : Prop where
  hi : ∀ b ∈ μ, Base.W.heap.size ≤ b
  le : Base.W.heap.size ≤ w.heap.size
  eq : ∀ k, k < Base.W.heap.size → w.heap[k]? = Base.W.heap[k]?
variable [Base]
/-- The world holds the heap, each name at its block. -/
structure Rel (μ : List Nat) (H : List Blk) (w : World) : Prop where
  len : H.length = μ.length
  nd : μ.Nodup
  lt : ∀ b ∈ μ, b < w.heap.size
  blk : ∀ (i b : Nat) (c : List Value) (e : TypeId), H[i]? = some (.cells c e) → μ[i]? = some b → ∃ c' : List Value, w.heap[b]? = some (.cells c'.toArray e (0, 0)) ∧ VRs μ c c'
  rob : ∀ (i b : Nat) (f : Nat → Option Value), H[i]? = some (.ro f) → μ[i]? = some b → ∀ (o : Nat) (v : Value), f o = some v → ∃ v', w.cell? ⟨b, o, none⟩ = some v' ∧ VR μ v v'
  base : BaseOk μ w

def Own (μ : List Nat) (H : List Blk) (b : Nat) : Prop := ∃ (i : Nat) (c : List Value) (e : TypeId), μ[i]? = some b ∧ H[i]? = some (.cells c e)

/-- What a run from (μ, H, w) to (μ', H', w') leaves alone. -/
structure Ext (μ : List Nat) (H : List Blk) (w : World) (μ' : List Nat) (H' : List Blk) (w' : World) : Prop where
  pre : ∃ ext : List Nat, μ' = μ ++ ext ∧ ∀ b ∈ ext, w.heap.size ≤ b
  size : w.heap.size ≤ w'.heap.size
  os : w'.os = w.os
  tape : w'.tape = w.tape
  output : w'.output = w.output
  same : ∀ b, b < w.heap.size → ¬ Own μ H b → w'.heap[b]? = w.heap[b]?
  own : ∀ (i : Nat) (c : List Value) (e : TypeId), i < H.length → H'[i]? = some (.cells c e) → ∃ c0 e0, H[i]? = some (.cells c0 e0)

theorem Ext.refl (μ : List Nat) (H : List Blk) (w : World) : Ext μ H w μ H w :=
  ⟨⟨[], by simp, by simp⟩, Nat.le_refl _, rfl, rfl, rfl, fun _ _ _ => rfl, fun i c e _ h => ⟨c, e, h⟩⟩

theorem Ext.sub {μ μ' : List Nat} {H H' : List Blk} {w w' : World} (h : Ext μ H w μ' H' w') : ∀ (i b : Nat), μ[i]? = some b → μ'[i]? = some b := by
  obtain ⟨ext, rfl, _⟩ := h.pre
  intro i b hi
  rw [List.getElem?_append_left (List.getElem?_eq_some_iff.1 hi).1]; exact hi

theorem Ext.trans {μ μ1 μ2 : List Nat} {H H1 H2 : List Blk} {w w1 w2 : World} (hl : H.length = μ.length) (hl1 : H1.length = μ1.length) (h : Ext μ H w μ1 H1 w1) (k : Ext μ1 H1 w1 μ2 H2 w2) : Ext μ H w μ2 H2 w2 := by
  obtain ⟨e1, he1, hb1⟩ := h.pre
  obtain ⟨e2, he2, hb2⟩ := k.pre
  subst he1; subst he2
  refine ⟨⟨e1 ++ e2, by simp, fun b hb => ?_⟩, Nat.le_trans h.size k.size, k.os.trans h.os, k.tape.trans h.tape, k.output.trans h.output, fun b hb hn => ?_, fun i c e hi hc => ?_⟩
  · rcases List.mem_append.1 hb with hb | hb
    · exact hb1 b hb
    · exact Nat.le_trans h.size (hb2 b hb)
  · rw [k.same b (Nat.lt_of_lt_of_le hb h.size), h.same b hb hn]
    rintro ⟨i, c, e, hi, hc⟩
    by_cases hlt : i < μ.length
    · rw [List.getElem?_append_left hlt] at hi
      obtain ⟨c0, e0, h0⟩ := h.own i c e (by omega) hc
      exact hn ⟨i, c0, e0, hi, h0⟩
    · rw [List.getElem?_append_right (by omega)] at hi
      have := hb1 b (List.mem_of_getElem? hi)
      omega
  · have hi1 : i < H1.length := by simp at hl1; omega
    obtain ⟨c1, e1', h1⟩ := k.own i c e hi1 hc
    exact h.own i c1 e1' hi h1

theorem Ext.drew {μ μ' : List Nat} {H H' : List Blk} {w w' : World} (h : Ext μ H w μ' H' w') : Ext μ H w μ' H' w'.drew := ⟨h.pre, h.size, h.os, h.tape, h.output, h.same, h.own⟩
theorem Ext.of_drew {μ μ' : List Nat} {H H' : List Blk} {w w' : World} (h : Ext μ H w.drew μ' H' w') : Ext μ H w μ' H' w' := ⟨h.pre, h.size, h.os, h.tape, h.output, h.same, h.own⟩
theorem Rel.drew {μ : List Nat} {H : List Blk} {w : World} (h : Rel μ H w) : Rel μ H w.drew := ⟨h.len, h.nd, h.lt, h.blk, h.rob, ⟨h.base.hi, h.base.le, h.base.eq⟩⟩

theorem nodup_inj {μ : List Nat} (h : μ.Nodup) {i j b : Nat} (hi : μ[i]? = some b) (hj : μ[j]? = some b) : i = j := by
  obtain ⟨h1, e1⟩ := List.getElem?_eq_some_iff.1 hi
  obtain ⟨h2, e2⟩ := List.getElem?_eq_some_iff.1 hj
  exact (List.getElem_inj h).1 (e1.trans e2.symm)

/-- A new block. -/
theorem Rel.alloc {μ : List Nat} {H : List Blk} {w : World} (h : Rel μ H w) {c c' : List Value} (e : TypeId) (hc : VRs μ c c') :
    Rel (μ ++ [w.heap.size]) (H ++ [.cells c e]) (w.alloc (.cells c'.toArray e)) ∧ Ext μ H w (μ ++ [w.heap.size]) (H ++ [.cells c e]) (w.alloc (.cells c'.toArray e)) := by
  have hmono : ∀ (i b : Nat), μ[i]? = some b → (μ ++ [w.heap.size])[i]? = some b := fun i b hi => by
    rw [List.getElem?_append_left (List.getElem?_eq_some_iff.1 hi).1]; exact hi
  have hsz : (w.alloc (.cells c'.toArray e)).heap.size = w.heap.size + 1 := by simp
  have hold : ∀ b, b < w.heap.size → (w.alloc (.cells c'.toArray e)).heap[b]? = w.heap[b]? := fun b hb => heap_alloc_old w _ b hb
  have hlast : (μ ++ [w.heap.size])[μ.length]? = some w.heap.size := by simp
  constructor
  · refine ⟨by simp [h.len], ?_, ?_, ?_, ?_, ⟨fun b hb => ?_, by have := h.base.le; omega, fun k hk => (hold k (Nat.lt_of_lt_of_le hk h.base.le)).trans (h.base.eq k hk)⟩⟩
    rotate_right
    · rcases List.mem_append.1 hb with hb | hb
      · exact h.base.hi b hb
      · simp at hb; have := h.base.le; omega
    · rw [List.nodup_append]
      refine ⟨h.nd, by simp, ?_⟩
      intro a ha b hb hab
      simp at hb
      have := h.lt a ha
      omega
    · intro b hb
      rw [hsz]
      rcases List.mem_append.1 hb with hb | hb
      · have := h.lt b hb; omega
      · simp at hb; omega
    · intro i b c1 e1 hH hμ
      by_cases hlt : i < H.length
      · rw [List.getElem?_append_left hlt] at hH
        rw [List.getElem?_append_left (by rw [← h.len]; exact hlt)] at hμ
        obtain ⟨c2, h2, hv⟩ := h.blk i b c1 e1 hH hμ
        exact ⟨c2, by rw [hold b (h.lt b (List.mem_of_getElem? hμ))]; exact h2, hv.mono hmono⟩
      · have hi : i = H.length := by
          have := (List.getElem?_eq_some_iff.1 hH).1; simp at this; omega
        subst hi
        simp at hH
        rw [h.len, hlast] at hμ
        cases hμ
        obtain ⟨rfl, rfl⟩ := hH
        exact ⟨c', heap_alloc_new w _, hc.mono hmono⟩
    · intro i b f hH hμ o v hf
      by_cases hlt : i < H.length
      · rw [List.getElem?_append_left hlt] at hH
        rw [List.getElem?_append_left (by rw [← h.len]; exact hlt)] at hμ
        obtain ⟨v', h2, hv⟩ := h.rob i b f hH hμ o v hf
        refine ⟨v', ?_, hv.mono hmono⟩
        rw [World.cell?_alloc_lt w _ _ (h.lt b (List.mem_of_getElem? hμ))]
        exact h2
      · have hi : i = H.length := by
          have := (List.getElem?_eq_some_iff.1 hH).1; simp at this; omega
        subst hi
        simp at hH
  · refine ⟨⟨[w.heap.size], rfl, by simp⟩, by omega, rfl, rfl, rfl, fun b hb _ => hold b hb, fun i c1 e1 hi hH => ?_⟩
    rw [List.getElem?_append_left hi] at hH
    exact ⟨c1, e1, hH⟩

theorem setRow_other (w : World) (g b : Nat) (c : Array Value) (h : b ≠ g) : (w.setRow g c).heap[b]? = w.heap[b]? := by
  unfold World.setRow
  simp [Array.getElem?_modify, Ne.symm h]

theorem cell?_of_heap_eq {w w' : World} {b : Nat} (h : w'.heap[b]? = w.heap[b]?) (o : Nat) : w'.cell? ⟨b, o, none⟩ = w.cell? ⟨b, o, none⟩ := by
  unfold World.cell?; simp only [h]

/-- Cells of a block are written. -/
theorem Rel.setRow {μ : List Nat} {H : List Blk} {w : World} (h : Rel μ H w) {i b : Nat} {c d d' : List Value} {e : TypeId} (hH : H[i]? = some (.cells c e)) (hμ : μ[i]? = some b) (hd : VRs μ d d') :
    Rel μ (H.set i (.cells d e)) (w.setRow b d'.toArray) ∧ Ext μ H w μ (H.set i (.cells d e)) (w.setRow b d'.toArray) := by
  obtain ⟨c', hw, _⟩ := h.blk i b c e hH hμ
  have hlt : i < H.length := (List.getElem?_eq_some_iff.1 hH).1
  have hsz : (w.setRow b d'.toArray).heap.size = w.heap.size := by unfold World.setRow; simp
  constructor
  · refine ⟨by simp [h.len], h.nd, fun x hx => by rw [hsz]; exact h.lt x hx, ?_, ?_, ⟨h.base.hi, by rw [hsz]; exact h.base.le, fun k hk => (setRow_other w b k _ fun e => by have := h.base.hi b (List.mem_of_getElem? hμ); omega).trans (h.base.eq k hk)⟩⟩
    · intro j x c1 e1 hj hx
      rw [List.getElem?_set] at hj
      split at hj
      · rename_i hij
        subst hij
        simp [hlt] at hj
        obtain ⟨rfl, rfl⟩ := hj
        rw [hμ] at hx; cases hx
        exact ⟨d', setRow_heap w b _ d'.toArray e _ hw, hd⟩
      · rename_i hij
        have hne : x ≠ b := fun hxb => hij (nodup_inj h.nd hμ (hxb ▸ hx))
        rw [setRow_other w b x _ hne]
        exact h.blk j x c1 e1 hj hx
    · intro j x f hj hx o v hf
      rw [List.getElem?_set] at hj
      split at hj
      · rename_i hij; simp [hlt] at hj
      · rename_i hij
        have hne : x ≠ b := fun hxb => hij (nodup_inj h.nd hμ (hxb ▸ hx))
        rw [cell?_of_heap_eq (setRow_other w b x _ hne)]
        exact h.rob j x f hj hx o v hf
  · refine ⟨⟨[], by simp, by simp⟩, by omega, rfl, rfl, rfl, fun x hx hn => setRow_other w b x _ fun hxb => hn ⟨i, c, e, hxb ▸ hμ, hH⟩, fun j c1 e1 hj hc1 => ?_⟩
    rw [List.getElem?_set] at hc1
    split at hc1
    · rename_i hij; subst hij; exact ⟨c, e, hH⟩
    · exact ⟨c1, e1, hc1⟩

end Go.Aw
end
section
/-
  The run of a function's code over named heaps, told as what is asked of what follows ('AWp'): a computation, no search: 'conv => whnf' carries it out.
-/
set_option linter.unusedSectionVars false
namespace Go.Aw
variable [Base]

/-- What is known of a type. -/
structure TInf where
  desc : TypeDesc
  size : Nat
  bytes : Nat
  zero : List Value
  eqok : Bool
abbrev Tab := List (Option TInf)

def isAggD : TypeDesc → Bool
  | .struct _ | .array _ _ => true
  | _ => false

/-- 'b' is asked, then 'k'. -/
def Req (b : Bool) (k : Unit → Prop) : Prop := Bool.rec (motive := fun _ => Prop) False (k ()) b
/-- Which way, by 'b'. -/
def Bif (b : Bool) (p q : Unit → Prop) : Prop := Bool.rec (motive := fun _ => Prop) (q ()) (p ()) b

theorem Req.of {b : Bool} {p : Prop} (h : b = true) (k : p) : Bool.rec (motive := fun _ => Prop) False p b := by subst h; exact k
theorem Bif.of {b : Bool} {p q : Prop} (h : b = true → p) (k : b = false → q) : Bool.rec (motive := fun _ => Prop) q p b := by cases b <;> simp_all
theorem Bif.knT {b : Bool} {p q : Prop} (h : b = true) (k : b = true → p) : Bool.rec (motive := fun _ => Prop) q p b := by cases b <;> simp_all
theorem Bif.knF {b : Bool} {p q : Prop} (h : b = false) (k : b = false → q) : Bool.rec (motive := fun _ => Prop) q p b := by cases b <;> simp_all
theorem Bif.ofT {b : Bool} {p q : Prop} (h : b = true) (k : p) : Bool.rec (motive := fun _ => Prop) q p b := by subst h; exact k
theorem Bif.ofF {b : Bool} {p q : Prop} (h : b = false) (k : q) : Bool.rec (motive := fun _ => Prop) q p b := by subst h; exact k

/-! ### Lists, the result handed on as a list of conses -/
def getF {α : Type} : List α → Nat → (α → Prop) → Prop
  | [], _, _ => False
  | a :: _, 0, k => k a
  | _ :: l, i + 1, k => getF l i k
def setF {α : Type} : List α → Nat → α → (List α → Prop) → Prop
  | [], _, _, k => k []
  | _ :: l, 0, v, k => k (v :: l)
  | a :: l, i + 1, v, k => setF l i v fun l' => k (a :: l')
def snocF {α : Type} : List α → α → (List α → Prop) → Prop
  | [], v, k => k [v]
  | a :: l, v, k => snocF l v fun l' => k (a :: l')
def takeF {α : Type} : List α → Nat → (List α → Prop) → Prop
  | _, 0, k => k []
  | [], _ + 1, _ => False
  | a :: l, n + 1, k => takeF l n fun l' => k (a :: l')
def dropF {α : Type} : List α → Nat → (List α → Prop) → Prop
  | l, 0, k => k l
  | [], _ + 1, _ => False
  | _ :: l, n + 1, k => dropF l n k
/-- 'v's laid over the list from place 'o' on. -/
def putF {α : Type} : List α → Nat → List α → (List α → Prop) → Prop
  | l, 0, [], k => k l
  | [], 0, _ :: _, _ => False
  | _ :: l, 0, v :: vs, k => putF l 0 vs fun l' => k (v :: l')
  | [], _ + 1, _, _ => False
  | a :: l, o + 1, vs, k => putF l o vs fun l' => k (a :: l')

def tinfF (T : Tab) (t : TypeId) (k : TInf → Prop) : Prop := getF T t fun o => match o with | some i => k i | none => False

abbrev VK := Value → Prop

/-- A part of an aggregate's cells. -/
def partF (T : Tab) (t : TypeId) (cs : List Value) (off : Nat) (k : VK) : Prop :=
  tinfF T t fun i => match isAggD i.desc with
    | true => dropF cs off fun d => takeF d i.size fun l => k (.agg l.toArray)
    | false => getF cs off k

/-- A whole list of cells, all of one kind that can be stored. -/
def one : Value → Bool
  | .agg _ | .tuple _ => false
  | _ => true

def loadF (T : Tab) (H : List Blk) (t : TypeId) (a : Value) (k : VK) : Prop :=
  match a with
  | .pointer (some ⟨i, o, none⟩) => getF H i fun b => match b with
    | .cells c _ => partF T t c o k
    | .ro f => tinfF T t fun j => match isAggD j.desc with
      | true => roF f o j.size fun l => k (.agg l.toArray)
      | false => ∃ v, f o = some v ∧ k v
    | .gone => False
  | _ => False
where
  roF (f : Nat → Option Value) (o : Nat) : Nat → (List Value → Prop) → Prop
    | 0, k => k []
    | n + 1, k => ∃ v, f o = some v ∧ roF f (o + 1) n fun l => k (v :: l)

def storeF (T : Tab) (H : List Blk) (t : TypeId) (a v : Value) (k : List Blk → Prop) : Prop :=
  match a with
  | .pointer (some ⟨i, o, none⟩) => getF H i fun b => match b with
    | .cells c e => tinfF T t fun j => match isAggD j.desc, v with
      | true, .agg vs => Req (Nat.beq vs.toList.length j.size && vs.toList.all one) fun _ => putF c o vs.toList fun c' => setF H i (.cells c' e) k
      | false, v => Req (one v && Nat.beq j.size 1) fun _ => putF c o [v] fun c' => setF H i (.cells c' e) k
      | _, _ => False
    | _ => False
  | _ => False

/-- '==' on two values of a type. -/
def eqFields (rec : TypeId → Value → Value → (Bool → Prop) → Prop) (T : Tab) (xs ys : List Value) : List Field → (Bool → Prop) → Prop
  | [], k => k true
  | f :: fs, k => match f.name == "_" with
    | true => eqFields rec T xs ys fs k
    | false => partF T f.type xs f.offset fun u => partF T f.type ys f.offset fun v => rec f.type u v fun b => eqFields rec T xs ys fs fun c => k (b && c)
def eqElems (rec : TypeId → Value → Value → (Bool → Prop) → Prop) (T : Tab) (xs ys : List Value) (e : TypeId) (s : Nat) : Nat → Nat → (Bool → Prop) → Prop
  | 0, _, k => k true
  | n + 1, j, k => partF T e xs (j * s) fun u => partF T e ys (j * s) fun v => rec e u v fun b => eqElems rec T xs ys e s n (j + 1) fun c => k (b && c)
/-- A byte. -/
def byt8 : Value → Bool
  | .int .u8 _ => true
  | _ => false
/-- Two rows of numbers alike. -/
def eqInts : List Value → List Value → Bool
  | [], [] => true
  | .int _ a :: xs, .int _ b :: ys => (a == b) && eqInts xs ys
  | _, _ => false
@[irreducible] def eqRow (xs ys : List Value) : Bool := eqInts xs ys
def isByte : TypeDesc → Bool
  | .int .u8 => true
  | _ => false
def eqF (T : Tab) : Nat → TypeId → Value → Value → (Bool → Prop) → Prop
  | 0, _, _, _, _ => False
  | d + 1, t, x, y, k => tinfF T t fun i =>
    match i.desc, x, y with
    | .bool, .bool a, .bool b => k (a == b)
    | .int _, .int kk a, .int kk' b => Req (decide (kk = kk')) fun _ => k (a == b)
    | .pointer _, .pointer none, .pointer b => k b.isNone
    | .pointer _, .pointer (some _), .pointer none => k false
    | .struct fs, .agg xs, .agg ys => Req i.eqok fun _ => eqFields (eqF T d) T xs.toList ys.toList fs.toList k
    | .array n e, .agg xs, .agg ys => Req i.eqok fun _ => tinfF T e fun j => match Nat.ble 64 n with
      | true => Req (Nat.blt 0 d && isByte j.desc && Nat.beq j.size 1 && Nat.beq xs.toList.length n && Nat.beq ys.toList.length n && xs.toList.all byt8 && ys.toList.all byt8) fun _ => k (eqRow xs.toList ys.toList)
      | false => eqElems (eqF T d) T xs.toList ys.toList e j.size n 0 k
    | _, _, _ => False

/-! ### Operations -/
/-- Two strings alike. -/
@[irreducible] def strEq (a b : ByteArray) : Bool := a.data.toList == b.data.toList
/-- The string of these bytes. -/
def strPush (s : ByteArray) : List Int → ByteArray
  | [] => s
  | n :: l => strPush (s.push (UInt8.ofNat n.toNat)) l
@[irreducible] def strOf (l : List Int) : ByteArray := strPush .empty l
def binF (T : Tab) (op : BinOp) (t : TypeId) (x y : Value) (k : VK) : Prop :=
  match op, x, y with
  | .shl, .int kd a, .int _ b => Req (decide (0 ≤ b)) fun _ => k (.int kd (kd.wrap (a * 2 ^ min b.toNat kd.bits)))
  | .shr, .int kd a, .int _ b => Req (decide (0 ≤ b)) fun _ => k (.int kd (a.fdiv (2 ^ min b.toNat kd.bits)))
  | .add, .int kd a, .int kd' b => Req (decide (kd = kd')) fun _ => k (.int kd (kd.wrap (a + b)))
  | .sub, .int kd a, .int kd' b => Req (decide (kd = kd')) fun _ => k (.int kd (kd.wrap (a - b)))
  | .mul, .int kd a, .int kd' b => Req (decide (kd = kd')) fun _ => k (.int kd (kd.wrap (a * b)))
  | .quo, .int kd a, .int kd' b => Req (decide (kd = kd') && !(b == 0)) fun _ => k (.int kd (kd.wrap (a.tdiv b)))
  | .rem, .int kd a, .int kd' b => Req (decide (kd = kd') && !(b == 0)) fun _ => k (.int kd (a.tmod b))
  | .and, .int kd a, .int kd' b => Req (decide (kd = kd')) fun _ => k (.int kd (bits .and kd a b))
  | .or, .int kd a, .int kd' b => Req (decide (kd = kd')) fun _ => k (.int kd (bits .or kd a b))
  | .xor, .int kd a, .int kd' b => Req (decide (kd = kd')) fun _ => k (.int kd (bits .xor kd a b))
  | .andNot, .int kd a, .int kd' b => Req (decide (kd = kd')) fun _ => k (.int kd (bits .andNot kd a b))
  | .eql, .int kd a, .int kd' b => Req (decide (kd = kd')) fun _ => k (.bool (a == b))
  | .neq, .int kd a, .int kd' b => Req (decide (kd = kd')) fun _ => k (.bool (a != b))
  | .lss, .int kd a, .int kd' b => Req (decide (kd = kd')) fun _ => k (.bool (decide (a < b)))
  | .leq, .int kd a, .int kd' b => Req (decide (kd = kd')) fun _ => k (.bool (decide (a ≤ b)))
  | .gtr, .int kd a, .int kd' b => Req (decide (kd = kd')) fun _ => k (.bool (decide (a > b)))
  | .geq, .int kd a, .int kd' b => Req (decide (kd = kd')) fun _ => k (.bool (decide (a ≥ b)))
  | .eql, .string a, .string b => k (.bool (strEq a b))
  | .neq, .string a, .string b => k (.bool (!(strEq a b)))
  | .eql, x, y => eqG T t x y fun b => k (.bool b)
  | .neq, x, y => eqG T t x y fun b => k (.bool (!b))
  | _, _, _ => False
where
  eqG (T : Tab) (t : TypeId) (x y : Value) (k : Bool → Prop) : Prop :=
    match x, y with
    | .bool a, .bool b => eqF T 10000 t (.bool a) (.bool b) k
    | .pointer a, .pointer b => eqF T 10000 t (.pointer a) (.pointer b) k
    | .agg a, .agg b => tinfF T t fun i => Req i.eqok fun _ => eqF T 10000 t (.agg a) (.agg b) k
    | _, _ => False

def unF (op : UnOp) (x : Value) (k : VK) : Prop :=
  match op, x with
  | .neg, .int kd n => k (.int kd (kd.wrap (0 - n)))
  | .xor, .int kd n => k (.int kd (bits .xor kd (if kd.signed then -1 else kd.max) n))
  | .not, .bool b => k (.bool !b)
  | _, _ => False

def convF (T : Tab) (s d : TypeId) (x : Value) (k : VK) : Prop :=
  tinfF T s fun _ => tinfF T d fun j => match j.desc, x with
  | .int kd, .int _ n => k (.int kd (kd.wrap n))
  | _, _ => False

/-- The cells of a composite value. -/
def fillF (place : Nat → (Nat × Nat → Prop) → Prop) : List (Nat × Value) → List Value → (List Value → Prop) → Prop
  | [], cs, k => k cs
  | (i, v) :: rest, cs, k => place i fun p => Req (Nat.beq v.cells.toList.length p.2) fun _ => putF cs p.1 v.cells.toList fun cs' => fillF place rest cs' k
def fieldsP (T : Tab) : List Field → Nat → (Nat × Nat → Prop) → Prop
  | fs, i, k => getF fs i fun f => tinfF T f.type fun j => k (f.offset, j.size)
def buildF (T : Tab) (t : TypeId) (parts : List (Nat × Value)) (k : VK) : Prop :=
  tinfF T t fun i => match i.desc with
  | .struct fs => fillF (fieldsP T fs.toList) parts i.zero fun cs => k (.agg cs.toArray)
  | .array _ e => tinfF T e fun j => fillF (fun n k => k (n * j.size, j.size)) parts i.zero fun cs => k (.agg cs.toArray)
  | _ => False

def fieldAddrF (T : Tab) (s : TypeId) (x : Value) (f : Nat) (k : VK) : Prop :=
  tinfF T s fun i => match i.desc, x with
  | .struct fs, .pointer (some ⟨b, o, none⟩) => getF fs.toList f fun fd => tinfF T fd.type fun j => Req (!(Nat.beq j.size 0)) fun _ => k (.pointer (some ⟨b, o + fd.offset, none⟩))
  | _, _ => False
def fieldF (T : Tab) (s : TypeId) (x : Value) (f : Nat) (k : VK) : Prop :=
  tinfF T s fun i => match i.desc, x with
  | .struct fs, .agg cs => getF fs.toList f fun fd => partF T fd.type cs.toList fd.offset k
  | _, _ => False
def indexAddrF (T : Tab) (t : TypeId) (x ix : Value) (k : VK) : Prop :=
  tinfF T t fun i => match i.desc, x, ix with
  | .array n e, .pointer (some ⟨b, o, none⟩), .int _ j => Req (decide (0 ≤ j) && decide (j < n)) fun _ => tinfF T e fun q => k (.pointer (some ⟨b, o + j.toNat * q.size, none⟩))
  | .slice e, .slice (some ⟨b, o, none⟩) l _, .int _ j => Req (decide (0 ≤ j) && decide (j < l)) fun _ => tinfF T e fun q => k (.pointer (some ⟨b, o + j.toNat * q.size, none⟩))
  | _, _, _ => False
/-- A string's byte. -/
@[irreducible] def strAt (s : ByteArray) (j : Int) : Int := ((s[j.toNat]?).getD 0).toNat
def indexF (T : Tab) (t : TypeId) (x ix : Value) (k : VK) : Prop :=
  tinfF T t fun i => match i.desc, x, ix with
  | .array n e, .agg cs, .int _ j => Req (decide (0 ≤ j) && decide (j < n)) fun _ => tinfF T e fun q => partF T e cs.toList (j.toNat * q.size) k
  | .string, .string s, .int _ j => Req (decide (0 ≤ j) && decide (j < (s.size : Int))) fun _ => k (.int .u8 (strAt s j))
  | _, _, _ => False
/-- A slice of an array (behind a pointer) or of a slice; no third index. -/
def sliceF (T : Tab) (t : TypeId) (x : Value) (lo hi mx : Option Value) (k : VK) : Prop :=
  tinfF T t fun i => match i.desc, x, mx with
  | .array n e, .pointer (some ⟨b, o, none⟩), none => tinfF T e fun q => bounds n n lo hi fun l h => k (.slice (some ⟨b, o + (if n = l then 0 else l * q.size), none⟩) (h - l) (n - l))
  | .slice e, .slice (some ⟨b, o, none⟩) len cap, none => tinfF T e fun q => bounds len cap lo hi fun l h => k (.slice (some ⟨b, o + (if cap = l then 0 else l * q.size), none⟩) (h - l) (cap - l))
  | _, _, _ => False
where
  bounds (len cap : Nat) (lo hi : Option Value) (k : Nat → Nat → Prop) : Prop :=
    match hi, lo with
    | none, none => k 0 len
    | some (.int _ h), none => Req (decide (0 ≤ h) && decide (h ≤ cap)) fun _ => k 0 h.toNat
    | none, some (.int _ l) => Req (decide (0 ≤ l) && decide (l ≤ len)) fun _ => k l.toNat len
    | some (.int _ h), some (.int _ l) => Req (decide (0 ≤ h) && decide (h ≤ cap)) fun _ => Req (decide (0 ≤ l) && decide (l ≤ h.toNat)) fun _ => k l.toNat h.toNat
    | _, _ => False

def minF (f : Int → Int → Int) : Value → List Value → VK → Prop
  | v, [], k => k v
  | .int kd a, .int _ b :: r, k => minF f (.int kd (f a b)) r k
  | _, _, _ => False

/-! ### Operands -/
def evF (ts : List Value) (x : Operand) (k : VK) : Prop :=
  match x with
  | .tmp i => getF ts i fun v => sureF v k
  | .const v => k v
  | .func f => k (.func (.func f) #[] #[])
  | .global _ => False
def evsF (ts : List Value) : List Operand → (List Value → Prop) → Prop
  | [], k => k []
  | x :: xs, k => evF ts x fun v => evsF ts xs fun vs => k (v :: vs)
def evpF (ts : List Value) : List (Nat × Operand) → (List (Nat × Value) → Prop) → Prop
  | [], k => k []
  | (i, x) :: xs, k => evF ts x fun v => evpF ts xs fun vs => k ((i, v) :: vs)
def evoF (ts : List Value) : Option Operand → (Option Value → Prop) → Prop
  | none, k => k none
  | some x, k => evF ts x fun v => k (some v)

/-- An operation that only computes or reads. -/
def quietF (T : Tab) (H : List Blk) (ts : List Value) (op : Op) (k : VK) : Prop :=
  match op with
  | .move x => evF ts x k
  | .assign x => evF ts x k
  | .pick c a b => evF ts c fun q => match q with | .bool q => Bif q (fun _ => evF ts a k) (fun _ => evF ts b k) | _ => False
  | .build t ps => evpF ts ps.toList fun ps => buildF T t ps k
  | .load t a => evF ts a fun a => loadF T H t a k
  | .nilCheck x => evF ts x fun v => match v with
    | .pointer (some ⟨i, o, none⟩) => k (.pointer (some ⟨i, o, none⟩))
    | .func (.func f) a c => k (.func (.func f) a c)
    | _ => False
  | .binOp op t x y _ => evF ts x fun x => evF ts y fun y => binF T op t x y k
  | .unOp op _ x => evF ts x fun x => unF op x k
  | .convert s d x => evF ts x fun x => convF T s d x k
  | .makeFunc (.func f) a c => evsF ts a.toList fun a => evsF ts c.toList fun c => k (.func (.func f) a.toArray c.toArray)
  | .slice t x lo hi mx => evF ts x fun x => evoF ts lo fun lo => evoF ts hi fun hi => evoF ts mx fun mx => sliceF T t x lo hi mx k
  | .fieldAddr s x f => evF ts x fun x => fieldAddrF T s x f k
  | .field s x f => evF ts x fun x => fieldF T s x f k
  | .indexAddr t x i => evF ts x fun x => evF ts i fun i => indexAddrF T t x i k
  | .index t x i => evF ts x fun x => evF ts i fun i => indexF T t x i k
  | .extract x i => evF ts x fun x => match x with | .tuple vs => getF vs.toList i k | _ => False
  | .sliceToArrayPointer arr x => evF ts x fun x => tinfF T arr fun i => match i.desc, x with
    | .array n _, .slice (some ⟨b, o, none⟩) len _ => Req (Nat.ble n len) fun _ => k (.pointer (some ⟨b, o, none⟩))
    | _, _ => False
  | .call ⟨.builtin .len, args, tys⟩ => getF tys.toList 0 fun t => getF args.toList 0 fun a => evF ts a fun a => tinfF T t fun i => match i.desc, a with
    | .array n _, _ => k (.int .i64 n)
    | .slice _, .slice _ n _ => k (.int .i64 n)
    | _, _ => False
  | .call ⟨.builtin .min, args, _⟩ => evsF ts args.toList fun vs => match vs with | v :: r => minF (fun x y => if y < x then y else x) v r k | [] => False
  | .call ⟨.builtin .max, args, _⟩ => evsF ts args.toList fun vs => match vs with | v :: r => minF (fun x y => if y > x then y else x) v r k | [] => False
  | _ => False

/-- The heap holds these bytes from (b, o) on. -/
def BytesAt (H : List Blk) (b o : Nat) (l : List Int) : Prop := ∃ (c : List Value) (e : TypeId), H[b]? = some (.cells c e) ∧ ∀ (i : Nat) (x : Int), l[i]? = some x → c[o + i]? = some (.int .u8 x)
def isU8 : TypeDesc → Bool
  | .int .u8 => true
  | _ => false
/-- A conversion, to a string too. -/
def convS (T : Tab) (H : List Blk) (s d : TypeId) (x : Value) (k : VK) : Prop :=
  tinfF T s fun i => tinfF T d fun j => match i.desc, j.desc, x with
  | .slice e, .string, .slice none _ _ => tinfF T e fun q => Req (isU8 q.desc) fun _ => ∀ z : ByteArray, z.data = #[] → k (.string z)
  | .slice e, .string, .slice (some ⟨b, o, none⟩) n _ => tinfF T e fun q => Req (isU8 q.desc) fun _ => ∃ l : List Int, l.length = n ∧ BytesAt H b o l ∧ k (.string (strOf l))
  | _, .string, .string s => k (.string s)
  | _, .int kd, .int _ n => k (.int kd (kd.wrap n))
  | _, _, _ => False
/-- The same where the order is the text's. -/
def quietS (T : Tab) (H : List Blk) (ts : List Value) (op : Op) (k : VK) : Prop :=
  match op with
  | .convert s d x => evF ts x fun x => convS T H s d x k
  | op => quietF T H ts op k

/-- Which operations 'quietF' takes. -/
def quietOp : Op → Bool
  | .move _ | .assign _ | .pick .. | .build .. | .load .. | .nilCheck _ | .binOp .. | .unOp .. | .convert .. | .makeFunc (.func _) .. | .slice .. | .fieldAddr .. | .field .. | .indexAddr .. | .index .. | .extract .. | .sliceToArrayPointer .. => true
  | .call ⟨.builtin .len, _, _⟩ | .call ⟨.builtin .min, _, _⟩ | .call ⟨.builtin .max, _, _⟩ => true
  | _ => false


/-! ### Calls -/
/-- In whatever world that holds the heap, the call is entered and comes back with a value and a heap that 'R' tells. -/
structure ACalls (P : Program) (f : FuncId) (args : List Value) (H : List Blk) (R : Value → List Blk → Prop) : Prop where
  out : ∀ (μ : List Nat) (w : World) (cargs : List Value), VRs μ args cargs → Rel μ H w →
    (callFunc f cargs.toArray).run P w = .ok (.enter f cargs.toArray) w ∧
    Calls P f cargs.toArray w fun e w' => ∃ (v cv : Value) (μ' : List Nat) (H' : List Blk), e = .returned cv ∧ VR μ' v cv ∧ Rel μ' H' w' ∧ Ext μ H w μ' H' w' ∧ R v H'

def nums : List Nat := [0, 1, 2, 3, 4, 5, 6, 7, 8, 9, 10, 11, 12, 13, 14, 15, 16, 17, 18, 19, 20, 21, 22, 23, 24, 25, 26, 27, 28, 29, 30, 31, 32, 33, 34, 35, 36, 37, 38, 39, 40, 41, 42, 43, 44, 45, 46, 47, 48, 49, 50, 51, 52, 53, 54, 55, 56, 57, 58, 59, 60, 61, 62, 63]
/-- A new block behind the others, and its name. -/
def newF : List Blk → Blk → List Nat → (Nat → List Blk → Prop) → Prop
  | _, _, [], _ => False
  | [], b, n :: _, k => k n [b]
  | x :: l, b, _ :: ns, k => newF l b ns fun n l' => k n (x :: l')

/-- 'n' cells, all 'z': kept as one word. -/
@[irreducible] def repl (n : Nat) (z : Value) : List Value := List.replicate n z

def oneF : List Value → VK → Prop
  | [z], k => k z
  | _, _ => False
def catF {α : Type} : List α → List α → (List α → Prop) → Prop
  | [], m, k => k m
  | a :: l, m, k => catF l m fun l' => k (a :: l')
/-- 'n' times the cells of a zero value: kept as one word. -/
@[irreducible] def replZ (n : Nat) (z : List Value) : List Value := (List.replicate n z).flatten
/-- The cells of a slice's elements, and their number. -/
def srcF (H : List Blk) (size : Nat) (x : Value) (k : List Value → Nat → Prop) : Prop :=
  match x with
  | .slice none n _ => Req (Nat.beq n 0) fun _ => k [] 0
  | .slice (some ⟨b, p, none⟩) n _ => getF H b fun blk => match blk with
    | .cells c _ => dropF c p fun d => takeF d (n * size) fun l => k l n
    | _ => False
  | _ => False
def appF (H : List Blk) (e : TypeId) (j : TInf) (s x : Value) (k : Value → List Blk → Prop) : Prop :=
  srcF H j.size x fun new n => match s with
  | .slice base len cap => Bif (decide (len + n ≤ cap))
      (fun _ => match base with
        | some ⟨b, o, none⟩ => getF H b fun blk => match blk with
          | .cells c e' => Req (new.all one) fun _ => putF c (o + len * j.size) new fun c' => setF H b (.cells c' e') fun H' => k (.slice (some ⟨b, o, none⟩) (len + n) cap) H'
          | _ => False
        | none => k (.slice none (len + n) cap) H
        | _ => False)
      (fun _ => Req (decide (len + n ≤ 140737488355328) && decide (Builtin.nextslicecap (len + n) cap * j.bytes ≤ 281474976710656) && Nat.blt 0 j.bytes) fun _ => srcF H j.size s fun old _ => catF old new fun on =>
        ∀ nc : Nat, len + n ≤ nc → nc ≤ 9223372036854775807 → catF on (replZ (nc - (len + n)) j.zero) fun c => newF H (.cells c e) nums fun m H' => k (.slice (some ⟨m, 0, none⟩) (len + n) nc) H')
  | _ => False
def copyF (H : List Blk) (d s : Value) (k : Value → List Blk → Prop) : Prop :=
  match d, s with
  | .slice (some ⟨b, o, none⟩) dl _, .slice (some ⟨b2, p, none⟩) sl _ => getF H b2 fun blk2 => match blk2 with
    | .cells c2 _ => dropF c2 p fun q => takeF q (Nat.min sl dl) fun l => Req (l.all one) fun _ => getF H b fun blk => match blk with
      | .cells c e => putF c o l fun c' => setF H b (.cells c' e) fun H' => k (.int .i64 l.length) H'
      | _ => False
    | _ => False
  | _, _ => False

/-- An operation that makes memory, writes, or calls. -/
def effectF (P : Program) (T : Tab) (H : List Blk) (ts : List Value) (op : Op) (k : Value → List Blk → Prop) : Prop :=
  match op with
  | .alloc e => tinfF T e fun i => newF H (.cells i.zero e) nums fun n H' => k (.pointer (some ⟨n, 0, none⟩)) H'
  | .box e x => evF ts x fun v => newF H (.cells v.cells.toList e) nums fun n H' => k (.pointer (some ⟨n, 0, none⟩)) H'
  | .store t a x => evF ts a fun a => evF ts x fun v => storeF T H t a v fun H' => k undef H'
  | .buildSlice t len ps => evpF ts ps.toList fun ps => tinfF T t fun i => match i.desc with
    | .slice e => tinfF T e fun j => match Nat.beq len 1 && !(Nat.beq j.size 1) with
      | true => Req (Nat.blt 0 j.size && Nat.ble j.size 16777216 && Nat.beq j.zero.length j.size) fun _ => fillF (fun i k => k (i * j.size, j.size)) ps j.zero fun cs => newF H (.cells cs e) nums fun n H' => k (.slice (some ⟨n, 0, none⟩) 1 1) H'
      | false => Req (Nat.beq j.size 1 && Nat.ble len 16777216) fun _ => oneF j.zero fun z => fillF (fun i k => k (i * 1, 1)) ps (List.replicate len z) fun cs => newF H (.cells cs e) nums fun n H' => k (.slice (some ⟨n, 0, none⟩) len len) H'
    | _ => False
  | .makeSlice t l c => evF ts l fun l => evF ts c fun c => tinfF T t fun i => match i.desc, l, c with
    | .slice e, .int _ l, .int _ c => tinfF T e fun j => Req (Nat.beq j.size 1 && decide (0 ≤ l) && decide (l ≤ c) && decide (j.bytes * c ≤ 281474976710656) && decide (c ≤ 9223372036854775807)) fun _ => oneF j.zero fun z =>
        ∀ L : List Value, L = repl c.toNat z → newF H (.cells L e) nums fun n H' => k (.slice (some ⟨n, 0, none⟩) l.toNat c.toNat) H'
    | _, _, _ => False
  | .call ⟨.builtin .append, args, tys⟩ => evsF ts args.toList fun vs => getF tys.toList 0 fun t => getF tys.toList 1 fun t1 => tinfF T t fun i => tinfF T t1 fun i1 => match i.desc, i1.desc, vs with
    | .slice e, .slice _, [s, x] => tinfF T e fun j => appF H e j s x k
    | _, _, _ => False
  | .call ⟨.builtin .copy, args, tys⟩ => evsF ts args.toList fun vs => getF tys.toList 0 fun t => tinfF T t fun i => match i.desc, vs with
    | .slice e, [d, s] => tinfF T e fun j => Req (Nat.beq j.size 1) fun _ => copyF H d s k
    | _, _ => False
  | .call ⟨.value f, args, _⟩ => evF ts f fun f => evsF ts args.toList fun vs => match f with
    | .func (.func g) a c => ACalls P g (a.toList ++ vs ++ c.toList) H k
    | _ => False
  | _ => False

/-! ### Code -/
inductive Ex where
  | normal
  | exit (id : Nat)
  | ret

def putDst (ts : List Value) (dst : Option Tmp) (v : Value) (k : List Value → Prop) : Prop :=
  match dst with
  | none => k ts
  | some d => setF ts d v k

/-- Is the operation wanted? -/
def wantF (ops : List Oper) (ts : List Value) (g : Option (Nat × Bool)) (yes no : Unit → Prop) : Prop :=
  match g with
  | none => yes ()
  | some (j, want) => getF ops j fun o => match o.dst with
    | none => no ()
    | some d => getF ts d fun v => match v, want with
      | .bool b, true => Bif b yes no
      | .bool b, false => Bif b no yes
      | .chan _, _ => False
      | _, _ => no ()

/-- The operations of a region, one behind the other. -/
def opsF (P : Program) (T : Tab) (ops : List Oper) : List Oper → List Value → List Blk → (List Value → List Blk → Prop) → Prop
  | [], ts, H, k => k ts H
  | o :: rest, ts, H, k => wantF ops ts o.guard
      (fun _ => match quietOp o.op with
        | true => quietS T H ts o.op fun v => putDst ts o.dst v fun ts => opsF P T ops rest ts H k
        | false => effectF P T H ts o.op fun v H => putDst ts o.dst v fun ts => opsF P T ops rest ts H k)
      (fun _ => putDst ts o.dst undef fun ts => opsF P T ops rest ts H k)

/-- A load that has been carried out: its number, its type, its address, what it gave. -/
structure Seen where
  i : Nat
  t : TypeId
  a : Value
  v : Value

/-- A load that has been carried out would give the same again. -/
def keep1 (T : Tab) (H : List Blk) (s : Seen) (k : Unit → Prop) : Prop :=
  match s.a with
  | .slice (some ⟨b, o, none⟩) _ _ => (∃ l : List Int, BytesAt H b o l ∧ Value.agg (l.map fun n => Value.int .u8 n).toArray = s.v) ∧ k ()
  | a => loadF T H s.t a fun v => v = s.v ∧ k ()
/-- The loads of these numbers would give the same again. -/
def keepF (T : Tab) (H : List Blk) (ks : List Nat) : List Seen → (Unit → Prop) → Prop
  | [], k => k ()
  | s :: l, k => match ks.any (Nat.beq s.i) with
    | true => keep1 T H s fun _ => keepF T H ks l k
    | false => keepF T H ks l k

/-- A conversion, and the bytes that it read. -/
def convP (T : Tab) (H : List Blk) (s d : TypeId) (x : Value) (k : Value → Option (List Value) → Prop) : Prop :=
  tinfF T s fun i => tinfF T d fun j => match i.desc, j.desc, x with
  | .slice e, .string, .slice none _ _ => tinfF T e fun q => Req (isU8 q.desc) fun _ => ∀ z : ByteArray, z.data = #[] → k (.string z) none
  | .slice e, .string, .slice (some ⟨b, o, none⟩) n _ => tinfF T e fun q => Req (isU8 q.desc) fun _ => ∃ l : List Int, l.length = n ∧ BytesAt H b o l ∧ k (.string (strOf l)) (some (l.map fun n => Value.int .u8 n))
  | _, .string, .string s => k (.string s) none
  | _, .int kd, .int _ n => k (.int kd (kd.wrap n)) none
  | _, _, _ => False
/-- A quiet operation of a region that draws its order; what is to be kept of it. -/
def quietP (T : Tab) (H : List Blk) (ts : List Value) (i : Nat) (op : Op) (L : List Seen) (k : Value → List Seen → Prop) : Prop :=
  match op with
  | .load t a => evF ts a fun a => loadF T H t a fun v => k v (⟨i, t, a, v⟩ :: L)
  | .convert s d x => evF ts x fun x => convP T H s d x fun v c => match c with | none => k v L | some c => k v (⟨i, s, x, .agg c.toArray⟩ :: L)
  | op => quietF T H ts op fun v => k v L

abbrev Plan := List (Nat × List Nat)
abbrev Hints := List (Nat × Plan)

/-- The operations of a region that draws its order, in the order of a plan. -/
def planF (P : Program) (T : Tab) (ops : List Oper) : Plan → List Seen → List Value → List Blk → (List Value → List Blk → Prop) → Prop
  | [], _, ts, H, k => k ts H
  | (i, ks) :: rest, L, ts, H, k => getF ops i fun o => wantF ops ts o.guard
      (fun _ => match quietOp o.op with
        | true => quietP T H ts i o.op L fun v L => putDst ts o.dst v fun ts => planF P T ops rest L ts H k
        | false => effectF P T H ts o.op fun v H => keepF T H ks L fun _ => putDst ts o.dst v fun ts => planF P T ops rest L ts H k)
      (fun _ => putDst ts o.dst undef fun ts => planF P T ops rest L ts H k)

def hintF : Hints → Nat → (Plan → Prop) → Prop
  | [], _, _ => False
  | (j, p) :: hs, i, k => match Nat.beq j i with | true => k p | false => hintF hs i k

abbrev AK := Ex → List Value → List Blk → Prop

def rounds (body : AK → List Value → List Blk → Prop) (K : AK) : Nat → List Value → List Blk → Prop
  | 0, _, _ => False
  | n + 1, ts, H => body (fun e ts H => match e with | .normal => rounds body K n ts H | e => K e ts H) ts H

/-- A value names only blocks below 'n'. -/
def bdv : Nat → Nat → Value → Bool
  | 0, _, _ => false
  | d + 1, n, v => match v with
    | .bool _ | .int _ _ | .string _ | .pointer none | .slice none _ _ | .nilFunc | .nilIface => true
    | .pointer (some ⟨i, _, none⟩) => Nat.blt i n
    | .slice (some ⟨i, _, none⟩) _ _ => Nat.blt i n
    | .agg cs => cs.toList.all (bdv d n)
    | .tuple cs => cs.toList.all (bdv d n)
    | .func (.func _) a c => a.toList.all (bdv d n) && c.toList.all (bdv d n)
    | .iface _ v => bdv d n v
    | _ => false
/-- A frame of which less is known: each slot as it was, or 'junk'. -/
def fadeS (n : Nat) : List Value → List Value → Prop
  | [], [] => True
  | _ :: l, .chan none :: m => fadeS n l m
  | v :: l, w :: m => bdv 6 n w = true ∧ v = w ∧ fadeS n l m
  | _, _ => False
/-- A heap of which the younger blocks are forgotten: none that is kept names one of them; what is read only stood there ahead of the loop. -/
def fadeH (n : Nat) : List Blk → List Blk → List Blk → Prop
  | _, _, [] => True
  | H0, b :: H, .cells c e :: H2 => c.all (bdv 6 n) = true ∧ b = .cells c e ∧ fadeH n H0.tail H H2
  | b0 :: H0, b :: H, .ro f :: H2 => b0 = .ro f ∧ b = .ro f ∧ fadeH n H0 H H2
  | H0, _ :: H, .gone :: H2 => fadeH n H0.tail H H2
  | _, _, _ => False
/-- What is known ahead of the next round: less than behind the last one. -/
def FadeC (H0 : List Blk) (ts : List Value) (H : List Blk) (ts2 : List Value) (H2 : List Blk) : Prop := Nat.ble H0.length H2.length = true ∧ fadeS H2.length ts ts2 ∧ fadeH H2.length H0 H H2
/-- The same by any reason. -/
def Weak (H0 : List Blk) (ts : List Value) (H : List Blk) (ts2 : List Value) (H2 : List Blk) : Prop :=
  ∀ (μ0 : List Nat) (w0 : World) (μ : List Nat) (w : World) (tmps : List Value), Rel μ0 H0 w0 → SRs μ ts tmps → Rel μ H w → Ext μ0 H0 w0 μ H w → ∃ μ2, SRs μ2 ts2 tmps ∧ Rel μ2 H2 w ∧ Ext μ0 H0 w0 μ2 H2 w
def Fade (H0 : List Blk) (ts : List Value) (H : List Blk) (ts2 : List Value) (H2 : List Blk) : Prop := FadeC H0 ts H ts2 H2 ∨ Weak H0 ts H ts2 H2
def roundsF (body : AK → List Value → List Blk → Prop) (K : AK) (H0 : List Blk) : Nat → List Value → List Blk → Prop
  | 0, _, _ => False
  | n + 1, ts, H => body (fun e ts H => match e with | .normal => ∃ ts2 H2, Fade H0 ts H ts2 H2 ∧ roundsF body K H0 n ts2 H2 | e => K e ts H) ts H

/-- A loop: for some number of rounds. -/
inductive ALoop (body : AK → List Value → List Blk → Prop) (K : AK) (ts : List Value) (H : List Blk) : Prop
  | of (n : Nat) (h : rounds body K n ts H) : ALoop body K ts H
  | fade (n : Nat) (ts2 : List Value) (H2 : List Blk) (hf : Fade H ts H ts2 H2) (h : roundsF body K H n ts2 H2) : ALoop body K ts H

def AWp (P : Program) (T : Tab) (hs : Hints) : Code → AK → List Value → List Blk → Prop
  | .skip, K, ts, H => K .normal ts H
  | .region _ ops false, K, ts, H => opsF P T ops.toList ops.toList ts H (K .normal)
  | .region id ops true, K, ts, H => hintF hs id fun p => planF P T ops.toList p [] ts H (K .normal)
  | .seq a b, K, ts, H => AWp P T hs a (fun e ts H => match e with | .normal => AWp P T hs b K ts H | e => K e ts H) ts H
  | .cond c a b, K, ts, H => evF ts c fun v => match v with | .bool q => Bif q (fun _ => AWp P T hs a K ts H) (fun _ => AWp P T hs b K ts H) | _ => False
  | .block id c, K, ts, H => AWp P T hs c (fun e ts H => match e with | .exit j => (match Nat.beq j id with | true => K .normal ts H | false => K (.exit j) ts H) | e => K e ts H) ts H
  | .loop c, K, ts, H => ALoop (AWp P T hs c) K ts H
  | .exit id, K, ts, H => K (.exit id) ts H
  | .ret, K, ts, H => K .ret ts H
  | _, _, _, _ => False

/-- What a function hands back. -/
def resF (T : Tab) (H : List Blk) (ts : List Value) : List ResultVar → (List Value → Prop) → Prop
  | [], k => k []
  | .tmp t :: rs, k => getF ts t fun v => sureF v fun v => resF T H ts rs fun vs => k (v :: vs)
  | .cell a t :: rs, k => getF ts a fun p => sureF p fun p => loadF T H t p fun v => resF T H ts rs fun vs => k (v :: vs)
def postF (T : Tab) (rs : List ResultVar) (R : Value → List Blk → Prop) : AK
  | .exit _, _, _ => False
  | _, ts, H => resF T H ts rs fun vs => match vs with
    | [v] => R v H
    | vs => R (.tuple vs.toArray) H

end Go.Aw
set_option linter.unusedSectionVars false
namespace Go.Aw
variable [Base]
def bodyOf (f : Func) : Code := match f.body with | some c => c | none => .refuse ""
end Go.Aw
end
section
/-
  Regions that draw their order: an operation may be taken first if nobody who may come before it disturbs what it reads.
-/
set_option linter.unusedSectionVars false
namespace Go.Aw
variable [Base]
section
variable {P : Program} {ops : Array Oper} {Q : Exit → Act → World → Prop}

abbrev rdy (ops : Array Oper) (l : Array Bool) : List Nat := Region.ready .any ops l

/-- Operation 'j' waits for 'x', in at most 'n' steps. -/
def waits (ops : Array Oper) : Nat → Nat → Nat → Bool
  | 0, _, _ => false
  | n + 1, x, j => match ops[j]? with
    | none => false
    | some o => o.after.toList.any (fun e => Region.binds .any e && e.on == x) || o.after.toList.any (fun e => Region.binds .any e && waits ops n x e.on)

/-- Whoever has come up has those behind it for which it waits. -/
def Down (ops : Array Oper) (l : Array Bool) : Prop := ∀ (j : Nat) (o : Oper), l.getD j false = true → ops[j]? = some o → ∀ e ∈ o.after, Region.binds .any e = true → l.getD e.on false = true

theorem waits_listed {l : Array Bool} (hd : Down ops l) : ∀ (n x j : Nat), waits ops n x j = true → l.getD j false = true → l.getD x false = true
  | 0, _, _, h, _ => by simp [waits] at h
  | n + 1, x, j, h, hj => by
    unfold waits at h
    cases ho : ops[j]? with
    | none => simp [ho] at h
    | some o =>
      simp only [ho, Bool.or_eq_true, List.any_eq_true, Bool.and_eq_true, beq_iff_eq] at h
      rcases h with ⟨e, he, hb, hx⟩ | ⟨e, he, hb, hw⟩
      · rw [← hx]; exact hd j o hj ho e (Array.mem_toList_iff.1 he) hb
      · exact waits_listed hd n x e.on hw (hd j o hj ho e (Array.mem_toList_iff.1 he) hb)

theorem waits_ready {l : Array Bool} (hd : Down ops l) {n x j : Nat} (h : waits ops n x j = true) (hj : j ∈ rdy ops l) : l.getD x false = true := by
  obtain ⟨_, o, ho, hall⟩ := mem_ready.1 hj
  cases n with
  | zero => simp [waits] at h
  | succ n =>
    unfold waits at h
    simp only [ho, Bool.or_eq_true, List.any_eq_true, Bool.and_eq_true, beq_iff_eq] at h
    rcases h with ⟨e, he, hb, hx⟩ | ⟨e, he, hb, hw⟩
    · rw [← hx]; exact hall e (Array.mem_toList_iff.1 he) hb
    · exact waits_listed hd n x e.on hw (hall e (Array.mem_toList_iff.1 he) hb)

theorem getD_two {l : Array Bool} {x : Nat} (h : l.getD x true = false) : l.getD x false = false := by
  rcases Nat.lt_or_ge x l.size with hx | hx
  · simp [hx] at h ⊢; exact h
  · simp [Array.getElem?_eq_none hx] at h

theorem getD_set_false {l : Array Bool} {i j : Nat} (h : (l.setIfInBounds i true).getD j false = true) : j = i ∨ l.getD j false = true := by
  by_cases hij : i = j
  · exact .inl hij.symm
  · rw [getD_set_ne false hij] at h; exact .inr h

theorem Down.set {l : Array Bool} (hd : Down ops l) {i : Nat} (hi : i ∈ rdy ops l) : Down ops (l.setIfInBounds i true) := by
  intro j o hj ho e he hb
  rcases getD_set_false hj with rfl | hj
  · obtain ⟨_, o', ho', hall⟩ := mem_ready.1 hi
    rw [ho] at ho'; cases ho'
    exact getD_set_true (hall e he hb)
  · exact getD_set_true (hd j o hj ho e he hb)

theorem Down.none (n : Nat) : Down ops (Array.replicate n false) := by
  intro j o hj
  simp only [Array.getD_eq_getD_getElem?, Array.getElem?_replicate] at hj
  split at hj <;> simp at hj

abbrev Wish := Nat × (World → Prop)
/-- The wishes that are still to be met behind operation 'j': those of operations for which it does not wait. -/
def Wish.behind (ops : Array Oper) (W : List Wish) (j : Nat) : List Wish := W.filter fun x => !(waits ops 3 x.1 j)
def Met (W : List Wish) (w : World) : Prop := ∀ x ∈ W, x.2 w

theorem Met.behind {W : List Wish} {w : World} (h : Met W w) (j : Nat) : Met (Wish.behind ops W j) w := fun x hx => h x (List.mem_filter.1 hx).1

/-- Whatever order is picked, the wishes are met behind each operation. -/
def anyK (P : Program) (ops : Array Oper) (Q : Exit → Act → World → Prop) : Nat → List Wish → Array Bool → Act → World → Prop
  | 0, _, l, a, w => rdy ops l = [] ∧ Q .normal a w
  | n + 1, W, l, a, w => (rdy ops l = [] → Q .normal a w) ∧ ∀ i ∈ rdy ops l, wpOp P ops Q i (fun a' w' => Met (Wish.behind ops W i) w' ∧ anyK P ops Q n (Wish.behind ops W i) (l.setIfInBounds i true) a' w') a w

theorem any_of_anyK : ∀ (n : Nat) (W : List Wish) (l : Array Bool) (a : Act) (w : World), anyK P ops Q n W l a w → wpAny P .any ops Q n l a w
  | 0, _, _, _, _, h => h
  | n + 1, _, _, _, _, h => ⟨h.1, fun i hi => wpOp_mono (fun a' w' h' => any_of_anyK n _ _ a' w' h'.2) (h.2 i hi)⟩

theorem anyK_sub : ∀ (n : Nat) {W V : List Wish} {l : Array Bool} {a : Act} {w : World}, (∀ x ∈ V, x ∈ W) → anyK P ops Q n W l a w → anyK P ops Q n V l a w
  | 0, _, _, _, _, _, _, h => h
  | n + 1, W, V, _, _, _, hs, h => ⟨h.1, fun i hi => wpOp_mono (fun a' w' h' => by
      have hb : ∀ x ∈ Wish.behind ops V i, x ∈ Wish.behind ops W i := fun x hx => List.mem_filter.2 ⟨hs x (List.mem_filter.1 hx).1, (List.mem_filter.1 hx).2⟩
      exact ⟨fun x hx => h'.1 x (hb x hx), anyK_sub n hb h'.2⟩) (h.2 i hi)⟩

theorem anyK_done {W : List Wish} {l : Array Bool} {a : Act} {w : World} (hr : rdy ops l = []) (h : Q .normal a w) : ∀ n, anyK P ops Q n W l a w
  | 0 => ⟨hr, h⟩
  | _ + 1 => ⟨fun _ => h, by rw [hr]; simp⟩

theorem anyK_true (i : Nat) : ∀ (n : Nat) {W : List Wish} {l : Array Bool} {a : Act} {w : World}, anyK P ops Q n W l a w → anyK P ops Q n ((i, fun _ => True) :: W) l a w
  | 0, _, _, _, _, h => h
  | n + 1, W, _, _, _, h => ⟨h.1, fun j hj => wpOp_mono (fun a' w' h' => by
      have hm : Met (Wish.behind ops ((i, fun _ => True) :: W) j) w' := fun x hx => by
        obtain ⟨h1, h2⟩ := List.mem_filter.1 hx
        rcases List.mem_cons.1 h1 with rfl | h1
        · trivial
        · exact h'.1 x (List.mem_filter.2 ⟨h1, h2⟩)
      refine ⟨hm, anyK_sub n (W := (i, fun _ => True) :: Wish.behind ops W j) (fun x hx => ?_) (anyK_true i n h'.2)⟩
      obtain ⟨h1, h2⟩ := List.mem_filter.1 hx
      rcases List.mem_cons.1 h1 with rfl | h1
      · exact List.mem_cons_self ..
      · exact List.mem_cons_of_mem _ (List.mem_filter.2 ⟨h1, h2⟩)) (h.2 j hj)⟩

/-- An operation taken first. -/
theorem anyK_first {i : Nat} {oi : Oper} {v : Value} {S : World → Prop} (hi : ops[i]? = some oi) (hs : Region.noSelect ops = true)
    (hQ : ∀ c a w, Q (.panic c) (a.put oi.dst v) w → Q (.panic c) a w) :
    ∀ (n : Nat) (W : List Wish) (l : Array Bool) (a : Act) (w : World), Down ops l → Region.free .any ops l i = true →
      i ∈ rdy ops l → YieldsIf P ops S oi v a → S w → Met W w →
      anyK P ops Q n ((i, S) :: W) (l.setIfInBounds i true) (a.put oi.dst v) w → anyK P ops Q (n + 1) W l a w := by
  have self : ∀ (n : Nat) (W : List Wish) (l : Array Bool) (a : Act) (w : World), YieldsIf P ops S oi v a → S w → Met W w →
      anyK P ops Q n ((i, S) :: W) (l.setIfInBounds i true) (a.put oi.dst v) w →
      wpOp P ops Q i (fun a' w' => Met (Wish.behind ops W i) w' ∧ anyK P ops Q n (Wish.behind ops W i) (l.setIfInBounds i true) a' w') a w :=
    fun n W l a w hy hS hW H => hy.wpOp hi hS ⟨hW.behind i, anyK_sub n (fun x hx => List.mem_cons_of_mem _ (List.mem_filter.1 hx).1) H⟩
  intro n
  induction n with
  | zero =>
    intro W l a w hd _ hr hy hS hW H
    refine ⟨fun h => (by rw [h] at hr; cases hr), fun j hj => ?_⟩
    by_cases hji : j = i
    · subst hji; exact self 0 W l a w hy hS hW H
    · have h1 := ready_mono hj hji
      rw [show Region.ready .any ops (l.setIfInBounds i true) = [] from H.1] at h1
      cases h1
  | succ n ih =>
    intro W l a w hd hf hr hy hS hW H
    refine ⟨fun h => (by rw [h] at hr; cases hr), fun j hj => ?_⟩
    by_cases hji : j = i
    · subst hji; exact self (n + 1) W l a w hy hS hW H
    · obtain ⟨hjun, oj, hoj, hall⟩ := mem_ready.1 hj
      have hiun := (mem_ready.1 hr).1
      have hnw : waits ops 3 i j = false := by
        cases hw : waits ops 3 i j with
        | false => rfl
        | true =>
          have := waits_ready hd hw hj
          rw [getD_two hiun] at this; cases this
      have hno : ∀ e ∈ oj.after, Region.binds .any e = true → e.on ≠ i := fun e he hb heq => by
        have := hall e he hb
        rw [heq, getD_two hiun] at this; cases this
      have h2 := wpOp_putIf hoj (Region.free_spec hi hf j oj hoj hji hjun hno) (fun cs b => Region.noSelect_spec hs i oi cs b hi) (fun cs b => Region.noSelect_spec hs j oj cs b hoj) hQ hy (H.2 j (ready_mono hj hji))
      have hb : Wish.behind ops ((i, S) :: W) j = (i, S) :: Wish.behind ops W j := by
        unfold Wish.behind
        rw [List.filter_cons_of_pos (by simp [hnw])]
      rw [hb] at h2
      have hf' : Region.free .any ops (l.setIfInBounds j true) i = true := by
        have hf0 := hf
        unfold Region.free at hf0 ⊢
        simp only [hi, List.all_eq_true, List.mem_range] at hf0 ⊢
        intro k hk
        have h3 := hf0 k hk
        by_cases hjk : j = k
        · subst hjk
          have : (l.setIfInBounds j true).getD j true = true := by
            rcases Nat.lt_or_ge j l.size with h' | h'
            · simp [h']
            · simp [h']
          simp only [this, Bool.or_true, Bool.true_or]
        · rw [getD_set_ne true hjk]; exact h3
      refine wpOp_mono (fun a' w' h3 => ?_) h2
      obtain ⟨hy', hm, hrest⟩ := h3
      have hm' : Met (Wish.behind ops W j) w' := fun x hx => hm x (List.mem_cons_of_mem _ hx)
      refine ⟨hm', ih _ _ a' w' (hd.set hj) hf' (ready_mono hr (Ne.symm hji)) hy' (hm _ (List.mem_cons_self ..)) hm' ?_⟩
      rw [Array.setIfInBounds_comm _ _ hji]
      exact hrest
end
end Go.Aw
end
section
/-
  What 'quietF' and 'effectF' ask is what the model's operations do, in every world that holds the heap.
-/
set_option linter.unusedSectionVars false
namespace Go.Aw
variable [Base]

/-! ### The lists -/
section lists
variable {α : Type}
theorem getF_iff {l : List α} {i : Nat} {k : α → Prop} (h : getF l i k) : ∃ v, l[i]? = some v ∧ k v := by
  induction l generalizing i with
  | nil => exact h.elim
  | cons a l ih => cases i with
    | zero => exact ⟨a, rfl, h⟩
    | succ i => simpa using ih h
theorem getF_of {l : List α} {i : Nat} {k : α → Prop} {v : α} (h : l[i]? = some v) (hk : k v) : getF l i k := by
  induction l generalizing i with
  | nil => simp at h
  | cons a l ih => cases i with
    | zero => simp at h; subst h; exact hk
    | succ i => simp at h; exact ih h
theorem setF_iff {l : List α} {i : Nat} {v : α} {k : List α → Prop} (h : setF l i v k) : k (l.set i v) := by
  induction l generalizing i k with
  | nil => simpa [setF] using h
  | cons a l ih => cases i with
    | zero => exact h
    | succ i => exact ih (k := fun l' => k (a :: l')) h
theorem setF_of {l : List α} {i : Nat} {v : α} {k : List α → Prop} (h : k (l.set i v)) : setF l i v k := by
  induction l generalizing i k with
  | nil => simpa [setF] using h
  | cons a l ih => cases i with
    | zero => exact h
    | succ i => exact ih (k := fun l' => k (a :: l')) h
theorem takeF_iff {l : List α} {n : Nat} {k : List α → Prop} (h : takeF l n k) : n ≤ l.length ∧ k (l.take n) := by
  induction n generalizing l k with
  | zero => cases l <;> exact ⟨Nat.zero_le _, by simpa [takeF] using h⟩
  | succ n ih => cases l with
    | nil => exact h.elim
    | cons a l => have := ih (k := fun l' => k (a :: l')) h; exact ⟨by simpa using this.1, this.2⟩
theorem takeF_of {l : List α} {n : Nat} {k : List α → Prop} (hn : n ≤ l.length) (h : k (l.take n)) : takeF l n k := by
  induction n generalizing l k with
  | zero => cases l <;> simpa [takeF] using h
  | succ n ih => cases l with
    | nil => simp at hn
    | cons a l => exact ih (k := fun l' => k (a :: l')) (by simpa using hn) h
theorem dropF_iff {l : List α} {n : Nat} {k : List α → Prop} (h : dropF l n k) : n ≤ l.length ∧ k (l.drop n) := by
  induction n generalizing l with
  | zero => cases l <;> exact ⟨Nat.zero_le _, by simpa [dropF] using h⟩
  | succ n ih => cases l with
    | nil => exact h.elim
    | cons a l => have := ih h; exact ⟨by simpa using this.1, this.2⟩
theorem dropF_of {l : List α} {n : Nat} {k : List α → Prop} (hn : n ≤ l.length) (h : k (l.drop n)) : dropF l n k := by
  induction n generalizing l with
  | zero => cases l <;> simpa [dropF] using h
  | succ n ih => cases l with
    | nil => simp at hn
    | cons a l => exact ih (by simpa using hn) h
/-- 'vs' laid over the list from 'o' on. -/
def lay (l : List α) (o : Nat) (vs : List α) : List α := l.take o ++ vs ++ l.drop (o + vs.length)
theorem putF_iff {l : List α} {o : Nat} {vs : List α} {k : List α → Prop} (h : putF l o vs k) : o + vs.length ≤ l.length ∧ k (lay l o vs) := by
  induction l generalizing o vs k with
  | nil => cases o with
    | zero => cases vs with
      | nil => exact ⟨by simp, by simpa [putF, lay] using h⟩
      | cons v vs => exact h.elim
    | succ o => cases vs <;> exact h.elim
  | cons a l ih => cases o with
    | zero => cases vs with
      | nil => exact ⟨by simp, by simpa [putF, lay] using h⟩
      | cons v vs =>
        have := ih (k := fun l' => k (v :: l')) h
        exact ⟨by simp at this ⊢; omega, by simpa [lay] using this.2⟩
    | succ o =>
      have hh : putF l o vs fun l' => k (a :: l') := by cases vs <;> exact h
      have := ih hh
      refine ⟨by simp at this ⊢; omega, ?_⟩
      have e : o + 1 + vs.length = (o + vs.length) + 1 := by omega
      simpa [lay, e] using this.2
theorem putF_of {l : List α} {o : Nat} {vs : List α} {k : List α → Prop} (hn : o + vs.length ≤ l.length) (h : k (lay l o vs)) : putF l o vs k := by
  induction l generalizing o vs k with
  | nil => cases o with
    | zero => cases vs with
      | nil => simpa [putF, lay] using h
      | cons v vs => simp at hn
    | succ o => simp at hn
  | cons a l ih => cases o with
    | zero => cases vs with
      | nil => simpa [putF, lay] using h
      | cons v vs => exact ih (k := fun l' => k (v :: l')) (by simp at hn ⊢; omega) (by simpa [lay] using h)
    | succ o =>
      have hh : putF l o vs fun l' => k (a :: l') := ih (by simp at hn ⊢; omega) (by
        have e : o + 1 + vs.length = (o + vs.length) + 1 := by omega
        simpa [lay, e] using h)
      cases vs <;> exact hh
theorem lay_length {l : List α} {o : Nat} {vs : List α} (h : o + vs.length ≤ l.length) : (lay l o vs).length = l.length := by
  simp [lay]; omega
theorem newF_iff {l : List Blk} {b : Blk} {ns : List Nat} {k : Nat → List Blk → Prop} (h : newF l b ns k) : ∃ n, ns[l.length]? = some n ∧ k n (l ++ [b]) := by
  induction l generalizing ns k with
  | nil => cases ns with
    | nil => exact h.elim
    | cons n ns => exact ⟨n, rfl, h⟩
  | cons a l ih => cases ns with
    | nil => exact h.elim
    | cons m ns => obtain ⟨n, hn, hk⟩ := ih (k := fun n l' => k n (a :: l')) h; exact ⟨n, by simpa using hn, hk⟩
theorem nums_eq : nums = List.range 64 := by decide
theorem newF_nums {l : List Blk} {b : Blk} {k : Nat → List Blk → Prop} (h : newF l b nums k) : k l.length (l ++ [b]) := by
  obtain ⟨n, hn, hk⟩ := newF_iff h
  rw [nums_eq, List.getElem?_range] at hn
  · cases hn; exact hk
  · have := (List.getElem?_eq_some_iff.1 hn).1; simpa using this
end lists

theorem VRs.lay {μ : List Nat} {l l' vs vs' : List Value} (h : VRs μ l l') (hv : VRs μ vs vs') (o : Nat) : VRs μ (lay l o vs) (Aw.lay l' o vs') := by
  unfold Aw.lay
  rw [← hv.1]
  exact ((h.take o).append hv).append (h.drop _)

theorem req_iff {b : Bool} {k : Unit → Prop} (h : Req b k) : b = true ∧ k () := by
  cases b with
  | false => exact False.elim h
  | true => exact ⟨rfl, h⟩
theorem bif_iff {b : Bool} {p q : Unit → Prop} (h : Bif b p q) : (b = true ∧ p ()) ∨ (b = false ∧ q ()) := by
  cases b with
  | false => exact .inr ⟨rfl, h⟩
  | true => exact .inl ⟨rfl, h⟩

/-! ### What is known of the types -/
structure TabOk (P : Program) (T : Tab) : Prop where
  und : ∀ (t : Nat) (i : TInf), T[t]? = some (some i) → P.underlying t = some i.desc
  info : ∀ (t : Nat) (i : TInf), T[t]? = some (some i) → ∃ (f : TypeInfo) (z : Value), P.info? t = some f ∧ f.size = i.size ∧ f.bytes = i.bytes ∧ f.zero = some z ∧ z.cells.toList = i.zero
  zero : ∀ (t : Nat) (i : TInf), T[t]? = some (some i) → ∀ μ, VRs μ i.zero i.zero
  eq : ∀ (t : Nat) (i : TInf), T[t]? = some (some i) → i.eqok = true → P.eqGuardType P.depth t = false ∧ P.stoodInHeld t = false
  flds : ∀ (t : Nat) (i : TInf) (fs : Array Field), T[t]? = some (some i) → i.desc = .struct fs → ∀ f ∈ fs, (P.info? f.type).isSome = true
  mixed : P.follows .mixedOrders = true

section
variable {P : Program} {T : Tab} {μ : List Nat}

theorem tinfF_iff {t : TypeId} {k : TInf → Prop} (h : tinfF T t k) : ∃ i, T[t]? = some (some i) ∧ k i := by
  obtain ⟨o, ho, hk⟩ := getF_iff h
  cases o with
  | none => exact hk.elim
  | some i => exact ⟨i, ho, hk⟩

theorem TabOk.sizeOf (hT : TabOk P T) {t : Nat} {i : TInf} (h : T[t]? = some (some i)) (w : World) : (sizeOf t).run P w = .ok i.size w := by
  obtain ⟨f, z, hf, hs, _⟩ := hT.info t i h
  simp [Go.sizeOf, typeInfo, hf, hs]
theorem TabOk.cellsOf (hT : TabOk P T) {t : Nat} {i : TInf} (h : T[t]? = some (some i)) : P.cellsOf t = i.size := by
  obtain ⟨f, z, hf, hs, _⟩ := hT.info t i h
  simp [Program.cellsOf, hf, hs]
theorem TabOk.underlying (hT : TabOk P T) {t : Nat} {i : TInf} (h : T[t]? = some (some i)) (w : World) : (underlying t).run P w = .ok i.desc w := run_underlying (hT.und t i h) w
theorem TabOk.isAgg (hT : TabOk P T) {t : Nat} {i : TInf} (h : T[t]? = some (some i)) (w : World) : (isAgg t).run P w = .ok (isAggD i.desc) w := by
  unfold Go.isAgg
  rw [Sem.run_bind, hT.underlying h w, Result.andThen_ok]
  cases i.desc <;> rfl

theorem part_sound (hT : TabOk P T) {t : TypeId} {cs cs' : List Value} {off : Nat} {k : VK} (h : partF T t cs off k) (hc : VRs μ cs cs') :
    ∃ v cv, k v ∧ VR μ v cv ∧ ∀ w, (part t cs'.toArray off).run P w = .ok cv w := by
  obtain ⟨i, hi, hk⟩ := tinfF_iff h
  cases ha : isAggD i.desc with
  | true =>
    simp only [ha] at hk
    obtain ⟨h1, hk⟩ := dropF_iff hk
    obtain ⟨h2, hk⟩ := takeF_iff hk
    refine ⟨_, .agg ((cs'.drop off).take i.size).toArray, hk, VR.aggs ((hc.drop off).take _), fun w => ?_⟩
    simp [part, hT.isAgg hi w, ha, hT.sizeOf hi w]
  | false =>
    simp only [ha] at hk
    obtain ⟨v, hv, hk⟩ := getF_iff hk
    obtain ⟨cv, hcv, hr⟩ := hc.get hv
    refine ⟨v, cv, hk, hr, fun w => ?_⟩
    have e : cs'.toArray[off]? = some cv := by simpa using hcv
    simp [part, hT.isAgg hi w, ha, e]

/-! ### Loads -/
/-- The cells from (b, o) on. -/
def CellsAt (b o : Nat) (l : List Value) (w : World) : Prop := ∀ (j : Nat) (x : Value), l[j]? = some x → w.cell? ⟨b, o + j, none⟩ = some x

theorem add_lit (b o n : Nat) : (⟨b, o, none⟩ : Addr).add n = ⟨b, o + n, none⟩ := by unfold Addr.add; split <;> simp_all

/-- The cells of a loaded value. -/
def ldl (T : Tab) (t : TypeId) (v : Value) : List Value :=
  match T[t]? with
  | some (some j) => if isAggD j.desc then v.cells.toList else [v]
  | _ => []

/-- The heap tells 'v' at (i, o), at type 't'. -/
structure LdOk (T : Tab) (H : List Blk) (t : TypeId) (i o : Nat) (v : Value) : Prop where
  shape : ∃ j, T[t]? = some (some j) ∧ (isAggD j.desc = true → ∃ l : List Value, v = .agg l.toArray ∧ l.length = j.size)
  cells : ∀ (μ : List Nat) (w : World) (b : Nat), Rel μ H w → μ[i]? = some b → ∃ l', VRs μ (ldl T t v) l' ∧ CellsAt b o l' w

theorem roF_iff {f : Nat → Option Value} {n o : Nat} {k : List Value → Prop} (h : loadF.roF f o n k) : ∃ l : List Value, l.length = n ∧ (∀ j x, l[j]? = some x → f (o + j) = some x) ∧ k l := by
  induction n generalizing o k with
  | zero => exact ⟨[], rfl, by simp, h⟩
  | succ n ih =>
    unfold loadF.roF at h
    obtain ⟨v, hf, h⟩ := h
    obtain ⟨l, hl, hx, hk⟩ := ih h
    refine ⟨v :: l, by simp [hl], fun j x hj => ?_, hk⟩
    cases j with
    | zero => simp at hj; subst hj; simpa using hf
    | succ j => simp at hj; rw [show o + (j + 1) = o + 1 + j by omega]; exact hx j x hj

theorem load_sound {H : List Blk} {t : TypeId} {a : Value} {k : VK} (h : loadF T H t a k) : ∃ i o v, a = .pointer (some ⟨i, o, none⟩) ∧ k v ∧ LdOk T H t i o v := by
  unfold loadF at h
  split at h
  · rename_i i o
    obtain ⟨b, hb, hk⟩ := getF_iff h
    refine ⟨i, o, ?_⟩
    cases b with
    | cells c e =>
      obtain ⟨j, hj, hk⟩ := tinfF_iff hk
      cases ha : isAggD j.desc with
      | true =>
        simp only [ha] at hk
        obtain ⟨h1, hk⟩ := dropF_iff hk
        obtain ⟨h2, hk⟩ := takeF_iff hk
        refine ⟨_, rfl, hk, ⟨j, hj, fun _ => ⟨_, rfl, by simp at h2 ⊢; omega⟩⟩, fun μ w b hr hμ => ?_⟩
        obtain ⟨c', hw, hc⟩ := hr.blk i b c e hb hμ
        refine ⟨(c'.drop o).take j.size, by simpa [ldl, hj, ha, Value.cells] using (hc.drop o).take _, fun m x hx => ?_⟩
        rw [cell_of_row w b _ _ e _ hw]
        rw [List.getElem?_take] at hx
        split at hx
        · rw [List.getElem?_drop] at hx; simpa using hx
        · cases hx
      | false =>
        simp only [ha] at hk
        obtain ⟨v, hv, hk⟩ := getF_iff hk
        refine ⟨v, rfl, hk, ⟨j, hj, fun h => by simp [ha] at h⟩, fun μ w b hr hμ => ?_⟩
        obtain ⟨c', hw, hc⟩ := hr.blk i b c e hb hμ
        obtain ⟨cv, hcv, hvr⟩ := hc.get hv
        refine ⟨[cv], by simpa [ldl, hj, ha] using VRs.cons hvr VRs.nil, fun m x hx => ?_⟩
        rw [cell_of_row w b _ _ e _ hw]
        cases m with
        | zero => simp at hx; subst hx; simpa using hcv
        | succ m => simp at hx
    | ro f =>
      obtain ⟨j, hj, hk⟩ := tinfF_iff hk
      cases ha : isAggD j.desc with
      | true =>
        simp only [ha] at hk
        obtain ⟨l, hl, hx, hk⟩ := roF_iff hk
        refine ⟨_, rfl, hk, ⟨j, hj, fun _ => ⟨l, rfl, hl⟩⟩, fun μ w b hr hμ => ?_⟩
        have hx' : ∀ m, m < l.length → ∃ y, w.cell? ⟨b, o + m, none⟩ = some y ∧ ∀ x, l[m]? = some x → VR μ x y := fun m hm => by
          obtain ⟨y, hy, hv⟩ := hr.rob i b f hb hμ (o + m) _ (hx m _ (List.getElem?_eq_getElem hm))
          exact ⟨y, hy, fun x hx => by rw [List.getElem?_eq_getElem hm] at hx; cases hx; exact hv⟩
        refine ⟨(List.range l.length).map fun m => (w.cell? ⟨b, o + m, none⟩).getD undef, ?_, fun m x hm => ?_⟩
        · refine ⟨by simp [ldl, hj, ha, Value.cells], fun m x y hm hy => ?_⟩
          have hml : m < l.length := by have := (List.getElem?_eq_some_iff.1 hy).1; simpa using this
          obtain ⟨y', hy', hv⟩ := hx' m hml
          simp only [List.getElem?_map, List.getElem?_range hml, Option.map_some, hy', Option.getD_some, Option.some.injEq] at hy
          subst hy
          exact hv x (by simpa [ldl, hj, ha, Value.cells] using hm)
        · have hml : m < l.length := by have := (List.getElem?_eq_some_iff.1 hm).1; simpa using this
          obtain ⟨y', hy', hv⟩ := hx' m hml
          simp only [List.getElem?_map, List.getElem?_range hml, Option.map_some, hy', Option.getD_some, Option.some.injEq] at hm
          subst hm
          exact hy'
      | false =>
        simp only [ha] at hk
        obtain ⟨v, hf, hk⟩ := hk
        refine ⟨v, rfl, hk, ⟨j, hj, fun h => by simp [ha] at h⟩, fun μ w b hr hμ => ?_⟩
        obtain ⟨y, hy, hv⟩ := hr.rob i b f hb hμ o v hf
        refine ⟨[y], by simpa [ldl, hj, ha] using VRs.cons hv VRs.nil, fun m x hx => ?_⟩
        cases m with
        | zero => simp at hx; subst hx; simpa using hy
        | succ m => simp at hx
    | gone => exact hk.elim
  · exact h.elim

theorem ld_run (hT : TabOk P T) {H : List Blk} {t : TypeId} {i o b : Nat} {v : Value} (h : LdOk T H t i o v) {l' : List Value} (hl : VRs μ (ldl T t v) l') :
    ∃ cv, VR μ v cv ∧ ∀ w, CellsAt b o l' w → (loadVar t ⟨b, o, none⟩).run P w = .ok cv w := by
  obtain ⟨j, hj, hs⟩ := h.shape
  cases ha : isAggD j.desc with
  | true =>
    obtain ⟨l, rfl, hlen⟩ := hs ha
    simp only [ldl, hj, ha, if_true, Value.cells] at hl
    refine ⟨.agg l'.toArray, VR.aggs (by simpa using hl), fun w hw => ?_⟩
    have hl2 : l'.length = j.size := by rw [← hl.1]; simpa using hlen
    have := run_loadCells_list (P := P) w ⟨b, o, none⟩ l' (fun m x hx => by rw [add_lit]; exact hw m x hx)
    rw [hl2] at this
    simp [loadVar, hT.isAgg hj w, ha, hT.sizeOf hj w, this]
  | false =>
    simp only [ldl, hj, ha, Bool.false_eq_true, if_false] at hl
    obtain ⟨y, hy, hv⟩ := hl.get (i := 0) rfl
    refine ⟨y, hv, fun w hw => ?_⟩
    have := hw 0 y hy
    simp only [Nat.add_zero] at this
    simp [loadVar, hT.isAgg hj w, ha, run_load, this]

end
end Go.Aw
end
section
/-
  The operations that only compute or read.
-/
set_option linter.unusedSectionVars false
namespace Go.Aw
variable [Base]
section
variable {P : Program} {T : Tab} {μ : List Nat}

theorem eqFields_sound (hT : TabOk P T) {d : Nat}
    (rec : ∀ (t : TypeId) (x y cx cy : Value) (k : Bool → Prop), eqF T d t x y k → VR μ x cx → VR μ y cy → ∃ b, k b ∧ ∀ w, (Op.equalIn d t cx cy).run P w = .ok b w)
    {xs ys xs' ys' : List Value} (hx : VRs μ xs xs') (hy : VRs μ ys ys') : ∀ (fs : List Field) (k : Bool → Prop), eqFields (eqF T d) T xs ys fs k →
    ∃ b, k b ∧ ∀ w, (Op.eqFields d xs'.toArray ys'.toArray fs).run P w = .ok b w
  | [], k, h => ⟨true, h, fun w => by simp [Op.eqFields]⟩
  | f :: fs, k, h => by
    unfold eqFields at h
    cases hn : (f.name == "_") with
    | true =>
      simp only [hn] at h
      obtain ⟨b, hb, hr⟩ := eqFields_sound hT rec hx hy fs k h
      refine ⟨b, hb, fun w => ?_⟩
      have : f.name = "_" := by simpa using hn
      simp [Op.eqFields, this, hr w]
    | false =>
      simp only [hn] at h
      obtain ⟨u, cu, h, hu, ru⟩ := part_sound hT h hx
      obtain ⟨v, cv, h, hv, rv⟩ := part_sound hT h hy
      obtain ⟨b, h, rb⟩ := rec _ _ _ _ _ _ h hu hv
      obtain ⟨c, h, rc⟩ := eqFields_sound hT rec hx hy fs _ h
      refine ⟨b && c, h, fun w => ?_⟩
      have : f.name ≠ "_" := by simpa using hn
      simp only [Op.eqFields, this, ne_eq, not_false_eq_true, if_true, Sem.run_bind, ru w, rv w, rb w, Result.andThen_ok]
      cases b
      · simp
      · simpa using rc w

theorem eqElems_sound (hT : TabOk P T) {d : Nat}
    (rec : ∀ (t : TypeId) (x y cx cy : Value) (k : Bool → Prop), eqF T d t x y k → VR μ x cx → VR μ y cy → ∃ b, k b ∧ ∀ w, (Op.equalIn d t cx cy).run P w = .ok b w)
    {xs ys xs' ys' : List Value} (hx : VRs μ xs xs') (hy : VRs μ ys ys') (e : TypeId) (s : Nat) : ∀ (n j : Nat) (k : Bool → Prop), eqElems (eqF T d) T xs ys e s n j k →
    ∃ b, k b ∧ ∀ w, (Op.eqItems d e s xs'.toArray ys'.toArray (List.range' j n)).run P w = .ok b w
  | 0, j, k, h => ⟨true, h, fun w => by simp [Op.eqItems]⟩
  | n + 1, j, k, h => by
    unfold eqElems at h
    obtain ⟨u, cu, h, hu, ru⟩ := part_sound hT h hx
    obtain ⟨v, cv, h, hv, rv⟩ := part_sound hT h hy
    obtain ⟨b, h, rb⟩ := rec _ _ _ _ _ _ h hu hv
    obtain ⟨c, h, rc⟩ := eqElems_sound hT rec hx hy e s n (j + 1) _ h
    refine ⟨b && c, h, fun w => ?_⟩
    simp only [List.range'_succ, Op.eqItems, Sem.run_bind, ru w, rv w, rb w, Result.andThen_ok]
    cases b
    · simp
    · simpa using rc w

theorem eqElems_of {d : Nat} {e : TypeId} {j : TInf} (hj : T[e]? = some (some j)) (hd : isByte j.desc = true) (hs : j.size = 1) {xs ys : List Value} (hx : xs.all byt8 = true) (hy : ys.all byt8 = true) :
    ∀ (n m : Nat) (k : Bool → Prop), m + n = xs.length → m + n = ys.length → k (eqInts (xs.drop m) (ys.drop m)) → eqElems (eqF T (d + 1)) T xs ys e 1 n m k
  | 0, m, k, h1, h2, h => by
    rw [List.drop_eq_nil_of_le (by omega), List.drop_eq_nil_of_le (by omega)] at h
    exact h
  | n + 1, m, k, h1, h2, h => by
    have hjd : j.desc = .int .u8 := by unfold isByte at hd; split at hd <;> simp_all
    obtain ⟨a, ha⟩ : ∃ a, xs[m]? = some (.int .u8 a) := by
      have hm : m < xs.length := by omega
      have := (List.all_eq_true.1 hx) _ (List.getElem_mem hm)
      rw [List.getElem?_eq_getElem hm]
      unfold byt8 at this
      split at this
      · rename_i a heq; exact ⟨a, by rw [heq]⟩
      · cases this
    obtain ⟨b, hb⟩ : ∃ b, ys[m]? = some (.int .u8 b) := by
      have hm : m < ys.length := by omega
      have := (List.all_eq_true.1 hy) _ (List.getElem_mem hm)
      rw [List.getElem?_eq_getElem hm]
      unfold byt8 at this
      split at this
      · rename_i a heq; exact ⟨a, by rw [heq]⟩
      · cases this
    have hp : ∀ (cs : List Value) (v : Value) (K : VK), cs[m]? = some v → K v → partF T e cs (m * 1) K := fun cs v K hv hk => by
      unfold partF
      refine getF_of hj ?_
      dsimp only
      rw [hjd]
      exact getF_of (by rw [Nat.mul_one]; exact hv) hk
    unfold eqElems
    refine hp xs _ _ ha (hp ys _ _ hb ?_)
    have hq : ∀ K : Bool → Prop, K (a == b) → eqF T (d + 1) e (.int .u8 a) (.int .u8 b) K := fun K hK => by
      unfold eqF
      refine getF_of hj ?_
      dsimp only
      rw [hjd]
      show Req (decide (IntKind.u8 = IntKind.u8)) _
      exact hK
    refine hq _ (eqElems_of hj hd hs hx hy n (m + 1) _ (by omega) (by omega) ?_)
    have e1 : xs.drop m = .int .u8 a :: xs.drop (m + 1) := by
      have hm : m < xs.length := by omega
      rw [List.drop_eq_getElem_cons hm]
      rw [Option.some.inj ((List.getElem?_eq_getElem hm).symm.trans ha)]
    have e2 : ys.drop m = .int .u8 b :: ys.drop (m + 1) := by
      have hm : m < ys.length := by omega
      rw [List.drop_eq_getElem_cons hm]
      rw [Option.some.inj ((List.getElem?_eq_getElem hm).symm.trans hb)]
    rw [e1, e2] at h
    exact h

theorem eq_sound (hT : TabOk P T) : ∀ (d : Nat) (t : TypeId) (x y cx cy : Value) (k : Bool → Prop), eqF T d t x y k → VR μ x cx → VR μ y cy →
    ∃ b, k b ∧ ∀ w, (Op.equalIn d t cx cy).run P w = .ok b w
  | 0, _, _, _, _, _, _, h, _, _ => False.elim h
  | d + 1, t, x, y, cx, cy, k, h0, hx, hy => by
    obtain ⟨i, hi, h⟩ := tinfF_iff h0
    clear h0
    have hu := hT.und t i hi
    split at h
    · rename_i a b hd
      cases hx; cases hy
      exact ⟨_, h, fun w => run_equalIn_bool' w d t _ _ (hu.trans (by rw [hd]))⟩
    · rename_i q ka a kb b hd
      cases hx; cases hy
      obtain ⟨hk, g⟩ := req_iff h
      have hk := of_decide_eq_true hk
      subst hk
      exact ⟨_, g, fun w => run_equalIn_int w d t _ _ _ _ (hu.trans (by rw [hd]))⟩
    · rename_i e b hd
      cases hx
      refine ⟨_, h, fun w => ?_⟩
      cases hy <;> simp [Op.equalIn, run_underlying (hu.trans (congrArg some hd))]
    · rename_i e a hd
      cases hy
      refine ⟨_, h, fun w => ?_⟩
      cases hx
      simp [Op.equalIn, run_underlying (hu.trans (congrArg some hd))]
    · rename_i fs xs ys hd
      obtain ⟨xs', rfl, hx'⟩ := hx.of_agg
      obtain ⟨ys', rfl, hy'⟩ := hy.of_agg
      obtain ⟨hq, h⟩ := req_iff h
      obtain ⟨b, hb, hr⟩ := eqFields_sound hT (fun t x y cx cy k => eq_sound hT d t x y cx cy k) hx' hy' fs.toList k h
      have hf : P.fieldsOf t = fs := by simp [Program.fieldsOf, hu, hd]
      refine ⟨b, hb, fun w => ?_⟩
      rw [run_equalIn_struct w d t xs' ys' (by rw [hf, hu, hd]) (hT.eq t i hi hq).2, hf]
      simpa using hr w
    · rename_i n e xs ys hd
      obtain ⟨xs', rfl, hx'⟩ := hx.of_agg
      obtain ⟨ys', rfl, hy'⟩ := hy.of_agg
      obtain ⟨hq, h⟩ := req_iff h
      obtain ⟨j, hj, h⟩ := tinfF_iff h
      have h : eqElems (eqF T d) T xs.toList ys.toList e j.size n 0 k := by
        split at h
        · obtain ⟨hq, h9⟩ := req_iff h
          clear h
          simp only [Bool.and_eq_true] at hq
          obtain ⟨⟨⟨⟨⟨⟨q1, q2⟩, q3⟩, q4⟩, q5⟩, q6⟩, q7⟩ := hq
          have q3 := Nat.eq_of_beq_eq_true q3
          have q4 := Nat.eq_of_beq_eq_true q4
          have q5 := Nat.eq_of_beq_eq_true q5
          cases d with
          | zero => cases q1
          | succ d =>
            rw [q3]
            unfold eqRow at h9
            exact eqElems_of hj q2 q3 q6 q7 n 0 k (by omega) (by omega) (by simpa using h9)
        · exact h
      obtain ⟨b, hb, hr⟩ := eqElems_sound hT (fun t x y cx cy k => eq_sound hT d t x y cx cy k) hx' hy' e j.size n 0 k h
      obtain ⟨f, z, hf, _⟩ := hT.info e j hj
      refine ⟨b, hb, fun w => ?_⟩
      rw [run_equalIn_array w d xs' ys' (hu.trans (by rw [hd])) hf, hT.cellsOf hj, List.range_eq_range']
      simpa using hr w
    · exact False.elim h

theorem eqG_sound (hT : TabOk P T) {t : TypeId} {x y cx cy : Value} {k : Bool → Prop} (h : binF.eqG T t x y k) (hx : VR μ x cx) (hy : VR μ y cy) :
    ∃ b, k b ∧ ∀ (w : World) (ox oy : Operand), (eqGuard .eql t ox oy cx cy).run P w = .ok () w ∧ (eqGuard .neq t ox oy cx cy).run P w = .ok () w ∧
      (binOp .eql t cx cy).run P w = .ok (.bool b) w ∧ (binOp .neq t cx cy).run P w = .ok (.bool (!b)) w := by
  unfold binF.eqG at h
  split at h
  · cases hx; cases hy
    obtain ⟨b, hb, hr⟩ := eq_sound (μ := μ) hT _ _ _ _ _ _ _ h (.bool _) (.bool _)
    refine ⟨b, hb, fun w ox oy => ⟨by rw [eqGuard_at_bool]; rfl, by rw [eqGuard_at_bool]; rfl, ?_, ?_⟩⟩
    · have := hr w; simp [binOp, Op.equal, Op.maxDepth, this]
    · have := hr w; simp [binOp, Op.equal, Op.maxDepth, this]
  · obtain ⟨b, hb, hr⟩ := eq_sound (μ := μ) hT _ _ _ _ _ _ _ h hx hy
    cases hx <;> cases hy
    all_goals
      refine ⟨b, hb, fun w ox oy => ⟨by rw [eqGuard_at_pointer]; rfl, by rw [eqGuard_at_pointer]; rfl, ?_, ?_⟩⟩
      · have := hr w; simp [binOp, Op.equal, Op.maxDepth, this]
      · have := hr w; simp [binOp, Op.equal, Op.maxDepth, this]
  · obtain ⟨i, hi, h⟩ := tinfF_iff h
    obtain ⟨hq, h⟩ := req_iff h
    obtain ⟨b, hb, hr⟩ := eq_sound (μ := μ) hT _ _ _ _ _ _ _ h hx hy
    obtain ⟨xs', rfl, _⟩ := hx.of_agg
    obtain ⟨ys', rfl, _⟩ := hy.of_agg
    have hg := (hT.eq t i hi hq).1
    refine ⟨b, hb, fun w ox oy => ⟨run_eqGuard_agg w _ t ox oy _ _ hg, run_eqGuard_agg w _ t ox oy _ _ hg, ?_, ?_⟩⟩
    · rw [run_eql_struct, hr w]; rfl
    · rw [run_neq_struct, hr w]; rfl
  · exact False.elim h

theorem bin_sound (hT : TabOk P T) {op : BinOp} {t : TypeId} {x y cx cy : Value} {k : VK} (h : binF T op t x y k) (hx : VR μ x cx) (hy : VR μ y cy) :
    ∃ v cv, k v ∧ VR μ v cv ∧ ∀ (w : World) (ox oy : Operand), (do eqGuard op t ox oy cx cy; binOp op t cx cy : Sem Value).run P w = .ok cv w := by
  unfold binF at h
  split at h
  case h_18 =>
    cases hx; cases hy
    refine ⟨_, _, h, .bool _, fun w ox oy => ?_⟩
    have hg : ∀ b : BinOp, ∀ s r : ByteArray, (eqGuard b t ox oy (.string s) (.string r)).run P w = .ok () w := fun b s r => by cases b <;> rfl
    simp [hg, binOp, Op.stringOp, strEq, ByteArray.toList_eq]
  case h_19 =>
    cases hx; cases hy
    refine ⟨_, _, h, .bool _, fun w ox oy => ?_⟩
    have hg : ∀ b : BinOp, ∀ s r : ByteArray, (eqGuard b t ox oy (.string s) (.string r)).run P w = .ok () w := fun b s r => by cases b <;> rfl
    simp [hg, binOp, Op.stringOp, strEq, ByteArray.toList_eq]
  case h_20 =>
    obtain ⟨b, hb, hr⟩ := eqG_sound hT h hx hy
    exact ⟨_, _, hb, .bool b, fun w ox oy => by obtain ⟨h1, h2, h3, h4⟩ := hr w ox oy; simp [h1, h3]⟩
  case h_21 =>
    obtain ⟨b, hb, hr⟩ := eqG_sound hT h hx hy
    exact ⟨_, _, hb, .bool (!b), fun w ox oy => by obtain ⟨h1, h2, h3, h4⟩ := hr w ox oy; simp [h2, h4]⟩
  case h_22 => exact False.elim h
  case h_1 | h_2 =>
    cases hx; cases hy
    obtain ⟨hk, h⟩ := req_iff h
    have hk := of_decide_eq_true hk
    refine ⟨_, _, h, .int _ _, fun w ox oy => ?_⟩
    have hn : ¬ (_ : Int) < 0 := Int.not_lt.2 hk
    simp [eqGuard_at_int, binOp, Op.shift, hn]
  case h_6 | h_7 =>
    cases hx; cases hy
    obtain ⟨hk, g⟩ := req_iff h
    simp only [Bool.and_eq_true, decide_eq_true_eq, Bool.not_eq_true', beq_eq_false_iff_ne] at hk
    obtain ⟨hk, hz⟩ := hk
    subst hk
    refine ⟨_, _, g, .int _ _, fun w ox oy => ?_⟩
    simp [eqGuard_at_int, binOp, Op.intDiv, hz]
  all_goals
    cases hx; cases hy
    obtain ⟨hk, g⟩ := req_iff h
    have hk := of_decide_eq_true hk
    subst hk
    first
      | (refine ⟨_, _, g, .int _ _, fun w ox oy => ?_⟩; simp [eqGuard_at_int, binOp, Op.intArith]; done)
      | (refine ⟨_, _, g, .int _ _, fun w ox oy => ?_⟩; simp only [eqGuard_at_int, binOp, Sem.run_bind, Sem.run_pure, Result.andThen_ok]; simp; rfl)
      | (refine ⟨_, _, g, .bool _, fun w ox oy => ?_⟩; simp [eqGuard_at_int, binOp, Op.intCmp]; done)

end
end Go.Aw
end
section
/-
  The operations that only compute or read, all of them.
-/
set_option linter.unusedSectionVars false
namespace Go.Aw
variable [Base]

/-- A value without pointers. -/
def okv : Nat → Value → Bool
  | 0, _ => false
  | n + 1, v => match v with
    | .bool _ | .int _ _ | .string _ | .pointer none | .slice none _ _ | .nilFunc | .nilIface => true
    | .agg cs => cs.toList.all (okv n)
    | .tuple cs => cs.toList.all (okv n)
    | .func (.func _) a c => a.toList.all (okv n) && c.toList.all (okv n)
    | .iface _ v => okv n v
    | _ => false

theorem okv_sound : ∀ (n : Nat) (v : Value), okv n v = true → ∀ μ, VR μ v v
  | 0, v, h, _ => by simp [okv] at h
  | n + 1, v, h, μ => by
    have all : ∀ cs : Array Value, cs.toList.all (okv n) = true → ∀ (i : Nat) (x y : Value), cs[i]? = some x → cs[i]? = some y → VR μ x y := fun cs hc i x y hx hy => by
      rw [hx] at hy; cases hy
      have hm : x ∈ cs.toList := Array.mem_toList_iff.2 (Array.mem_of_getElem? hx)
      exact okv_sound n x ((List.all_eq_true.1 hc) x hm) μ
    unfold okv at h
    split at h
    · exact .bool _
    · exact .int _ _
    · exact .str _
    · exact .ptrN
    · exact .slN _ _
    · exact .nilF
    · exact .nilI
    · exact .agg _ _ rfl (all _ h)
    · exact .tup _ _ rfl (all _ h)
    · simp only [Bool.and_eq_true] at h
      exact .fn _ _ _ _ _ rfl rfl (all _ h.1) (all _ h.2)
    · exact .ifc _ _ _ (okv_sound n _ h μ)
    · simp at h

theorem okvs_sound {l : List Value} {n : Nat} (h : l.all (okv n) = true) (μ : List Nat) : VRs μ l l :=
  ⟨rfl, fun i x y hx hy => by rw [hx] at hy; cases hy; exact okv_sound n x ((List.all_eq_true.1 h) x (List.mem_of_getElem? hx)) μ⟩

def opOk : Operand → Bool
  | .const v => okv 6 v
  | .global _ => false
  | _ => true

def opV (ts : List Value) : Operand → Option Value
  | .tmp i => (ts[i]?).bind fun v => match v with | .chan _ => none | v => some v
  | .const v => some v
  | .func f => some (.func (.func f) #[] #[])
  | .global _ => none

section
variable {P : Program} {T : Tab} {μ : List Nat} {ts : List Value} {a : Act}

theorem ev_iff {x : Operand} {k : VK} (h : evF ts x k) : ∃ v, opV ts x = some v ∧ k v := by
  cases x with
  | tmp i =>
    obtain ⟨v, hv, h⟩ := getF_iff h
    refine ⟨v, ?_, (sure_iff h).2⟩
    unfold sureF at h
    simp only [opV, hv, Option.bind_some]
    split at h
    · exact False.elim h
    · rename_i hc
      cases v <;> first | rfl | exact absurd rfl (hc _)
  | const v => exact ⟨v, rfl, h⟩
  | func f => exact ⟨_, rfl, h⟩
  | global g => exact False.elim h

theorem opV_sound (hv : SRs μ ts a.tmps.toList) {x : Operand} (ho : opOk x = true) {v : Value} (h : opV ts x = some v) : VR μ v (a.eval x) := by
  cases x with
  | tmp i =>
    simp only [opV] at h
    cases hx : ts[i]? with
    | none => rw [hx] at h; simp at h
    | some u =>
      rw [hx, Option.bind_some] at h
      have hu : u = v ∧ v ≠ junk := by
        cases u <;> first | (cases h; exact ⟨rfl, fun e => by cases e⟩) | cases h
      obtain ⟨rfl, hj⟩ := hu
      obtain ⟨y, hy, hr⟩ := hv.get hx
      have : a.tmps[i]? = some y := by simpa using hy
      simpa [Act.eval, this] using sure_of hj hr
  | const c => simp only [opV, Option.some.injEq] at h; subst h; exact okv_sound 6 _ ho μ
  | func f =>
    simp only [opV, Option.some.injEq] at h; subst h
    exact .fn f _ _ _ _ rfl rfl (fun i x y h _ => by simp at h) (fun i x y h _ => by simp at h)
  | global g => simp [opV] at h

theorem ev_sound (hv : SRs μ ts a.tmps.toList) {x : Operand} {k : VK} (h : evF ts x k) (ho : opOk x = true) : ∃ v, k v ∧ VR μ v (a.eval x) := by
  obtain ⟨v, h1, h2⟩ := ev_iff h
  exact ⟨v, h2, opV_sound hv ho h1⟩

theorem evs_sound (hv : SRs μ ts a.tmps.toList) : ∀ (xs : List Operand) {k : List Value → Prop}, evsF ts xs k → xs.all opOk = true → ∃ vs, k vs ∧ VRs μ vs (xs.map a.eval)
  | [], k, h, _ => ⟨[], h, VRs.nil⟩
  | x :: xs, k, h, ho => by
    simp only [List.all_cons, Bool.and_eq_true] at ho
    obtain ⟨v, h, r⟩ := ev_sound hv h ho.1
    obtain ⟨vs, h, rs⟩ := evs_sound hv xs h ho.2
    exact ⟨v :: vs, h, VRs.cons r rs⟩

/-- Parts of a composite value. -/
def VRp (μ : List Nat) : List (Nat × Value) → List (Nat × Value) → Prop
  | [], [] => True
  | (i, v) :: l, (j, w) :: m => i = j ∧ VR μ v w ∧ VRp μ l m
  | _, _ => False

theorem evp_sound (hv : SRs μ ts a.tmps.toList) : ∀ (xs : List (Nat × Operand)) {k : List (Nat × Value) → Prop}, evpF ts xs k → (xs.map (·.2)).all opOk = true → ∃ vs, k vs ∧ VRp μ vs (xs.map fun p => (p.1, a.eval p.2))
  | [], k, h, _ => ⟨[], h, trivial⟩
  | (i, x) :: xs, k, h, ho => by
    simp only [List.map_cons, List.all_cons, Bool.and_eq_true] at ho
    obtain ⟨v, h, r⟩ := ev_sound hv h ho.1
    obtain ⟨vs, h, rs⟩ := evp_sound hv xs h ho.2
    exact ⟨_, h, rfl, r, rs⟩

theorem evo_sound (hv : SRs μ ts a.tmps.toList) (x : Option Operand) {k : Option Value → Prop} (h : evoF ts x k) (ho : x.toList.all opOk = true) :
    ∃ v : Option Value, k v ∧ ((v = none ∧ x.map a.eval = none) ∨ ∃ y cy, v = some y ∧ x.map a.eval = some cy ∧ VR μ y cy) := by
  cases x with
  | none => exact ⟨none, h, .inl ⟨rfl, rfl⟩⟩
  | some x =>
    obtain ⟨v, h, r⟩ := ev_sound hv h (by simpa using ho)
    exact ⟨some v, h, .inr ⟨v, _, rfl, rfl, r⟩⟩

/-! ### Composite values -/
theorem lay_step (v : Value) (vs : List Value) : ∀ (o : Nat) (cs : List Value), o < cs.length → lay (cs.set o v) (o + 1) vs = lay cs o (v :: vs)
  | _, [], h => by simp at h
  | 0, c :: cs, _ => by simp [lay, Nat.add_comm 1]
  | o + 1, c :: cs, h => by
    have ih := lay_step v vs o cs (by simpa using h)
    unfold lay at ih ⊢
    simp only [List.set_cons_succ, List.take_succ_cons, List.length_cons, List.cons_append] at ih ⊢
    rw [show o + 1 + 1 + vs.length = (o + 1 + vs.length) + 1 by omega, show o + 1 + (vs.length + 1) = (o + (vs.length + 1)) + 1 by omega, List.drop_succ_cons, List.drop_succ_cons]
    exact congrArg _ ih

theorem fold_lay (o : Nat) : ∀ (vs : List Value) (n : Nat) (cs : Array Value), o + n + vs.length ≤ cs.size →
    ((vs.zipIdx n).foldl (fun cs (x : Value × Nat) => cs.setIfInBounds (o + x.2) x.1) cs).toList = lay cs.toList (o + n) vs
  | [], n, cs, _ => by simp [lay]
  | v :: vs, n, cs, h => by
    simp only [List.zipIdx_cons, List.foldl_cons]
    rw [fold_lay o vs (n + 1) _ (by simp at h ⊢; omega)]
    simp only [Array.toList_setIfInBounds]
    rw [show o + (n + 1) = o + n + 1 by omega]
    exact lay_step _ _ _ _ (by simp at h ⊢; omega)

theorem fill_sound {place : Nat → (Nat × Nat → Prop) → Prop} {plc : Nat → Option (Nat × Nat)} (hp : ∀ i k, place i k → ∃ p, plc i = some p ∧ k p) :
    ∀ (ps ps' : List (Nat × Value)) (cs cs' : List Value) (k : List Value → Prop), fillF place ps cs k → VRp μ ps ps' → VRs μ cs cs' →
      ∃ r r', k r ∧ VRs μ r r' ∧ Instr.fill plc cs'.toArray ps' = some r'.toArray
  | [], [], cs, cs', k, h, _, hc => ⟨cs, cs', h, hc, rfl⟩
  | (i, v) :: ps, (j, w) :: ps', cs, cs', k, h, hv, hc => by
    obtain ⟨rfl, hvw, hrest⟩ := hv
    unfold fillF at h
    obtain ⟨p, hpl, h⟩ := hp _ _ h
    obtain ⟨hlen, h⟩ := req_iff h
    have hlen := Nat.eq_of_beq_eq_true hlen
    obtain ⟨hle, h⟩ := putF_iff h
    have hcl := hvw.cells
    have hwl : w.cells.size = p.2 := by have := hcl.1; simp at this hlen; omega
    obtain ⟨r, r', hk, hr, hf⟩ := fill_sound hp ps ps' _ _ k h hrest (hc.lay hcl p.1)
    refine ⟨r, r', hk, hr, ?_⟩
    unfold Instr.fill
    have hle' : ¬ p.1 + w.cells.size > cs'.length := by have := hc.1; have := hcl.1; simp at this hle; omega
    simp only [hpl, hwl, ne_eq, not_true_eq_false, List.size_toArray, decide_false, Bool.false_or]
    rw [hwl] at hle'
    have e := fold_lay p.1 w.cells.toList 0 cs'.toArray (by simp; omega)
    simp only [Nat.add_zero] at e
    have e2 : (Array.foldl (fun cs (x : Value × Nat) => cs.setIfInBounds (p.1 + x.2) x.1) cs'.toArray w.cells.zipIdx) = (lay cs' p.1 w.cells.toList).toArray := by
      apply Array.ext'
      rw [← Array.foldl_toList, Array.toList_zipIdx]
      simpa using e
    simp only [hle', decide_false, Bool.false_eq_true, if_false]
    rw [show (fun cs x => match x with | (c, j) => Array.setIfInBounds cs (p.1 + j) c) = (fun (cs : Array Value) (x : Value × Nat) => cs.setIfInBounds (p.1 + x.2) x.1) from rfl, e2]
    exact hf

end
end Go.Aw
end
section
/-
  'quietF', whole.
-/
set_option linter.unusedSectionVars false
namespace Go.Aw
variable [Base]
section
variable {P : Program} {T : Tab} {μ : List Nat} {ts : List Value} {a : Act}

theorem VR.of_ptr {i o : Nat} {c : Value} (h : VR μ (.pointer (some ⟨i, o, none⟩)) c) : ∃ b, c = .pointer (some ⟨b, o, none⟩) ∧ μ[i]? = some b := by
  cases h with
  | ptr _ b _ h => exact ⟨b, rfl, h⟩

theorem un_sound {op : UnOp} {x cx : Value} {k : VK} (h : unF op x k) (hx : VR μ x cx) : ∃ v cv, k v ∧ VR μ v cv ∧ ∀ w, (Op.unary op cx).run P w = .ok cv w := by
  unfold unF at h
  split at h
  · cases hx; exact ⟨_, _, h, .int _ _, fun w => by simp [Op.unary, Op.intArith]⟩
  · cases hx; exact ⟨_, _, h, .int _ _, fun w => rfl⟩
  · cases hx; exact ⟨_, _, h, .bool _, fun w => rfl⟩
  · exact False.elim h

theorem conv_sound (hT : TabOk P T) {s d : TypeId} {x cx : Value} {k : VK} (h : convF T s d x k) (hx : VR μ x cx) : ∃ v cv, k v ∧ VR μ v cv ∧ ∀ w, (convert s d cx).run P w = .ok cv w := by
  replace h := tinfF_iff h
  obtain ⟨i, hi, h⟩ := h
  replace h := tinfF_iff h
  obtain ⟨j, hj, h⟩ := h
  split at h
  · rename_i kd kx n hd
    cases hx
    refine ⟨_, _, h, .int _ _, fun w => ?_⟩
    simp [convert, hT.underlying hi w, hT.underlying hj w, hd, Conv.intToInt]
  · exact False.elim h

theorem build_sound (hT : TabOk P T) {t : TypeId} {ps ps' : List (Nat × Value)} {k : VK} (h : buildF T t ps k) (hp : VRp μ ps ps') :
    ∃ v cv, k v ∧ VR μ v cv ∧ ∀ w, (Instr.build t ps'.toArray).run P w = .ok cv w := by
  replace h := tinfF_iff h
  obtain ⟨i, hi, h⟩ := h
  obtain ⟨f, z, hf, hs, hb, hz, hzc⟩ := hT.info t i hi
  have hu := hT.und t i hi
  have hz0 := hT.zero t i hi μ
  have hzc' : z.cells = i.zero.toArray := by rw [← hzc]
  split at h
  · rename_i fs hd
    have hpl : ∃ places, fs.toList.mapM (fun f => (P.info? f.type).map fun i => (f.offset, i.size)) = some places := by
      have hall : ∀ f ∈ fs.toList, (P.info? f.type).isSome = true := fun f hf => hT.flds t i fs hi hd f (Array.mem_toList_iff.1 hf)
      clear h
      generalize fs.toList = l at hall
      induction l with
      | nil => exact ⟨[], rfl⟩
      | cons x l ih =>
        obtain ⟨ps, hps⟩ := ih fun f hf => hall f (List.mem_cons_of_mem _ hf)
        obtain ⟨q, hq⟩ := Option.isSome_iff_exists.1 (hall x (List.mem_cons_self ..))
        exact ⟨(x.offset, q.size) :: ps, by simp [List.mapM_cons, hq, hps]⟩
    obtain ⟨places, hpl⟩ := hpl
    have hget : ∀ (n : Nat) (x : Field), fs.toList[n]? = some x → ∃ q, P.info? x.type = some q ∧ places[n]? = some (x.offset, q.size) := by
      clear h
      generalize fs.toList = l at hpl
      intro n x hx
      induction l generalizing n places with
      | nil => simp at hx
      | cons y l ih =>
        simp only [List.mapM_cons, Option.bind_eq_bind, Option.bind_eq_some_iff, Option.map_eq_some_iff, Option.pure_def, Option.some.injEq] at hpl
        obtain ⟨_, ⟨q, hq, rfl⟩, ps, hps, rfl⟩ := hpl
        cases n with
        | zero => simp at hx; subst hx; exact ⟨q, hq, rfl⟩
        | succ n => simp at hx; simpa using ih ps hps n hx
    obtain ⟨r, r', hk, hr, hfill⟩ := fill_sound (μ := μ) (plc := fun n => places.toArray[n]?) (fun n k h => by
      replace h := getF_iff h
      obtain ⟨x, hx, h⟩ := h
      replace h := tinfF_iff h
      obtain ⟨j, hj, h⟩ := h
      obtain ⟨q, hq, hpn⟩ := hget n x hx
      obtain ⟨f', z', hf', hs', _⟩ := hT.info _ _ hj
      rw [hq] at hf'; cases hf'
      exact ⟨_, by simpa [hs'] using hpn, h⟩) ps ps' _ _ _ h hp hz0
    refine ⟨_, .agg r'.toArray, hk, VR.aggs hr, fun w => run_build w t _ _ ?_⟩
    unfold Program.built
    simp only [hf, hu, hd, hz, hpl, hzc']
    exact hfill
  · rename_i n e hd
    replace h := tinfF_iff h
    obtain ⟨j, hj, h⟩ := h
    obtain ⟨f', z', hf', hs', _⟩ := hT.info _ _ hj
    obtain ⟨r, r', hk, hr, hfill⟩ := fill_sound (μ := μ) (plc := fun n => some (n * j.size, j.size)) (fun n k h => ⟨_, rfl, h⟩) ps ps' _ _ _ h hp hz0
    refine ⟨_, .agg r'.toArray, hk, VR.aggs hr, fun w => run_build w t _ _ ?_⟩
    unfold Program.built
    simp only [hf, hu, hd, hz, hf', hs', hzc']
    exact hfill
  · exact False.elim h

theorem fieldAddr_sound (hT : TabOk P T) {s : TypeId} {x cx : Value} {n : Nat} {k : VK} (h : fieldAddrF T s x n k) (hx : VR μ x cx) :
    ∃ v cv, k v ∧ VR μ v cv ∧ ∀ w, (Instr.fieldAt s cx n).run P w = .ok cv w := by
  replace h := tinfF_iff h
  obtain ⟨i, hi, h⟩ := h
  split at h
  · rename_i fs b o hd
    replace h := getF_iff h
    obtain ⟨fd, hfd, h⟩ := h
    replace h := tinfF_iff h
    obtain ⟨j, hj, h⟩ := h
    replace h := req_iff h
    obtain ⟨hz, h⟩ := h
    obtain ⟨c, rfl, hμ⟩ := hx.of_ptr
    refine ⟨_, _, h, .ptr _ _ _ hμ, fun w => ?_⟩
    have hfd' : fs[n]? = some fd := by simpa using hfd
    have hz' : ¬ j.size = 0 := by
      intro e; simp [e] at hz
    simp [Instr.fieldAt, hT.underlying hi w, hd, hfd', Instr.sureAddr, fieldPlace, hT.sizeOf hj w, hz', add_lit]
  · exact False.elim h

theorem field_sound (hT : TabOk P T) {s : TypeId} {x cx : Value} {n : Nat} {k : VK} (h : fieldF T s x n k) (hx : VR μ x cx) :
    ∃ v cv, k v ∧ VR μ v cv ∧ ∀ w, (Instr.field s cx n).run P w = .ok cv w := by
  replace h := tinfF_iff h
  obtain ⟨i, hi, h⟩ := h
  split at h
  · rename_i fs cs hd
    replace h := getF_iff h
    obtain ⟨fd, hfd, h⟩ := h
    obtain ⟨cs', rfl, hc⟩ := hx.of_agg
    obtain ⟨v, cv, hk, hr, hrun⟩ := part_sound hT h hc
    refine ⟨v, cv, hk, hr, fun w => ?_⟩
    have hfd' : fs[n]? = some fd := by simpa using hfd
    have := hrun w
    simp only [Array.toArray_toList] at this
    simp [Instr.field, hT.underlying hi w, hd, hfd', asAgg, this]
  · exact False.elim h

theorem indexAddr_sound (hT : TabOk P T) {t : TypeId} {x cx ix cix : Value} {k : VK} (h : indexAddrF T t x ix k) (hx : VR μ x cx) (hi : VR μ ix cix) :
    ∃ v cv, k v ∧ VR μ v cv ∧ ∀ w, (Instr.indexAt t cx cix).run P w = .ok cv w := by
  replace h := tinfF_iff h
  obtain ⟨i, hti, h⟩ := h
  split at h
  · rename_i n e b o kd j hd
    replace h := req_iff h
    obtain ⟨hj, h⟩ := h
    replace h := tinfF_iff h
    obtain ⟨q, hq, h⟩ := h
    obtain ⟨c, rfl, hμ⟩ := hx.of_ptr
    cases hi
    simp only [Bool.and_eq_true, decide_eq_true_eq] at hj
    refine ⟨_, _, h, .ptr _ _ _ hμ, fun w => ?_⟩
    simp [Instr.indexAt, hT.underlying hti w, hd, asIntOf, Instr.sureAddr, hj, hT.sizeOf hq w, add_lit]
  · rename_i e b o l c0 kd j hd
    replace h := req_iff h
    obtain ⟨hj, h⟩ := h
    replace h := tinfF_iff h
    obtain ⟨q, hq, h⟩ := h
    cases hx with
    | sl _ b' _ _ _ hμ =>
      cases hi
      simp only [Bool.and_eq_true, decide_eq_true_eq] at hj
      refine ⟨_, _, h, .ptr _ _ _ hμ, fun w => ?_⟩
      simp [Instr.indexAt, hT.underlying hti w, hd, asIntOf, hj, hT.sizeOf hq w, add_lit]
  · exact False.elim h

theorem index_sound (hT : TabOk P T) {t : TypeId} {x cx ix cix : Value} {k : VK} (h : indexF T t x ix k) (hx : VR μ x cx) (hi : VR μ ix cix) :
    ∃ v cv, k v ∧ VR μ v cv ∧ ∀ w, (Instr.index t cx cix).run P w = .ok cv w := by
  replace h := tinfF_iff h
  obtain ⟨i, hti, h⟩ := h
  split at h
  · rename_i n e cs kd j hd
    replace h := req_iff h
    obtain ⟨hj, h⟩ := h
    replace h := tinfF_iff h
    obtain ⟨q, hq, h⟩ := h
    obtain ⟨cs', rfl, hc⟩ := hx.of_agg
    cases hi
    obtain ⟨v, cv, hk, hr, hrun⟩ := part_sound hT h hc
    simp only [Bool.and_eq_true, decide_eq_true_eq] at hj
    refine ⟨v, cv, hk, hr, fun w => ?_⟩
    have := hrun w
    simp only [Array.toArray_toList] at this
    simp [Instr.index, hT.underlying hti w, hd, asIntOf, hj, hT.sizeOf hq w, this]
  · rename_i s kd j hd
    replace h := req_iff h
    obtain ⟨hj, h⟩ := h
    cases hx
    cases hi
    simp only [Bool.and_eq_true, decide_eq_true_eq] at hj
    refine ⟨_, _, h, .int _ _, fun w => ?_⟩
    rw [run_index_string w t s kd j ((hT.und t i hti).trans (by rw [hd])), dif_pos hj]
    have h2 : j.toNat < s.size := by omega
    simp only [strAt, ByteArray.getElem?_lt' _ _ h2, Option.getD_some]
  · exact False.elim h

def VRo (μ : List Nat) (v cv : Option Value) : Prop := (v = none ∧ cv = none) ∨ ∃ y cy, v = some y ∧ cv = some cy ∧ VR μ y cy

theorem bounds_sound {len cap : Nat} {lo hi clo chi : Option Value} {k : Nat → Nat → Prop} (b : Bool) (h : sliceF.bounds len cap lo hi k) (hl : VRo μ lo clo) (hh : VRo μ hi chi) :
    ∃ l m, k l m ∧ ∀ w, (Instr.sliceBounds b len cap clo chi none).run P w = .ok (l, m, cap) w := by
  unfold sliceF.bounds at h
  split at h
  · rcases hl with ⟨_, rfl⟩ | ⟨y, cy, e, _⟩
    · rcases hh with ⟨_, rfl⟩ | ⟨y, cy, e, _⟩
      · exact ⟨_, _, h, fun w => by simp [Instr.sliceBounds]⟩
      · cases e
    · cases e
  · rcases hl with ⟨_, rfl⟩ | ⟨y, cy, e, _⟩
    · rcases hh with ⟨e, _⟩ | ⟨y, cy, e, rfl, hv⟩
      · cases e
      · cases e; cases hv
        replace h := req_iff h
        obtain ⟨hj, h⟩ := h
        simp only [Bool.and_eq_true, decide_eq_true_eq] at hj
        exact ⟨_, _, h, fun w => by simp [Instr.sliceBounds, Instr.sliceBound, asIntOf, hj]⟩
    · cases e
  · rcases hh with ⟨_, rfl⟩ | ⟨y, cy, e, _⟩
    · rcases hl with ⟨e, _⟩ | ⟨y, cy, e, rfl, hv⟩
      · cases e
      · cases e; cases hv
        replace h := req_iff h
        obtain ⟨hj, h⟩ := h
        simp only [Bool.and_eq_true, decide_eq_true_eq] at hj
        exact ⟨_, _, h, fun w => by simp [Instr.sliceBounds, Instr.sliceBound, asIntOf, hj]⟩
    · cases e
  · rcases hh with ⟨e, _⟩ | ⟨y, cy, e, rfl, hv⟩
    · cases e
    · cases e; cases hv
      rcases hl with ⟨e, _⟩ | ⟨y, cy, e, rfl, hv⟩
      · cases e
      · cases e; cases hv
        replace h := req_iff h
        obtain ⟨hj, h⟩ := h
        replace h := req_iff h
        obtain ⟨hj2, h⟩ := h
        simp only [Bool.and_eq_true, decide_eq_true_eq] at hj hj2
        refine ⟨_, _, h, fun w => ?_⟩
        simp [Instr.sliceBounds, Instr.sliceBound, asIntOf, hj, hj2]
        intro hlt
        omega
  · exact False.elim h

theorem slice_sound (hT : TabOk P T) {t : TypeId} {x cx : Value} {lo hi mx clo chi cmx : Option Value} {k : VK} (h : sliceF T t x lo hi mx k) (hx : VR μ x cx) (hl : VRo μ lo clo) (hh : VRo μ hi chi) (hm : VRo μ mx cmx) :
    ∃ v cv, k v ∧ VR μ v cv ∧ ∀ w, (Instr.sliceAt t cx clo chi cmx).run P w = .ok cv w := by
  replace h := tinfF_iff h
  obtain ⟨i, hti, h⟩ := h
  split at h
  · rename_i n e b o hd
    rcases hm with ⟨_, rfl⟩ | ⟨y, cy, e, _⟩
    · replace h := tinfF_iff h
      obtain ⟨q, hq, h⟩ := h
      replace h := bounds_sound (P := P) false h hl hh
      obtain ⟨l, m, h, hb⟩ := h
      obtain ⟨c, rfl, hμ⟩ := hx.of_ptr
      refine ⟨_, .slice (some ⟨c, o + (if n = l then 0 else l * q.size), none⟩) (m - l) (n - l), h, .sl _ _ _ _ _ hμ, fun w => ?_⟩
      simp only [Instr.sliceAt, Sem.run_bind, hT.underlying hti w, hd, Result.andThen_ok, Instr.sureAddr, Sem.run_pure, hb w, hT.sizeOf hq w]
      split <;> simp [add_lit]
    · cases e
  · rename_i e b o len cap hd
    rcases hm with ⟨_, rfl⟩ | ⟨y, cy, e, _⟩
    · replace h := tinfF_iff h
      obtain ⟨q, hq, h⟩ := h
      replace h := bounds_sound (P := P) true h hl hh
      obtain ⟨l, m, h, hb⟩ := h
      cases hx with
      | sl _ c _ _ _ hμ =>
        refine ⟨_, .slice (some ⟨c, o + (if cap = l then 0 else l * q.size), none⟩) (m - l) (cap - l), h, .sl _ _ _ _ _ hμ, fun w => ?_⟩
        simp only [Instr.sliceAt, Instr.slice, Sem.run_bind, hT.underlying hti w, hd, Result.andThen_ok, Sem.run_pure, hb w, hT.sizeOf hq w]
        split <;> simp [add_lit]
    · cases e
  · exact False.elim h

theorem min_sound {f : Int → Int → Int} {g : Value → Value → Sem Value} (hg : ∀ k a k' b w, (g (.int k a) (.int k' b)).run P w = .ok (.int k (f a b)) w) :
    ∀ (vs vs' : List Value) (v v' : Value) (k : VK), minF f v vs k → VR μ v v' → VRs μ vs vs' → ∃ r cr, k r ∧ VR μ r cr ∧ ∀ w, (vs'.foldlM g v').run P w = .ok cr w
  | [], vs', v, v', k, h, hv, hs => by
    have : vs' = [] := by have := hs.1; simpa using this.symm
    subst this
    exact ⟨v, v', by cases v <;> exact h, hv, fun w => rfl⟩
  | u :: vs, vs', v, v', k, h, hv, hs => by
    obtain ⟨u', hu', hru⟩ := hs.get (i := 0) rfl
    cases vs' with
    | nil => simp at hu'
    | cons y vs' =>
      simp at hu'; subst hu'
      have hs' : VRs μ vs vs' := by simpa using hs.drop 1
      cases v <;> cases u <;> try (unfold minF at h; exact False.elim h)
      cases hv; cases hru
      obtain ⟨r, cr, hk, hr, hrun⟩ := min_sound hg vs vs' _ _ k h (.int _ _) hs'
      exact ⟨r, cr, hk, hr, fun w => by simp [List.foldlM_cons, hg, hrun w]⟩

def isLd : Op → Bool
  | .load .. => true
  | _ => false

theorem quiet_sound (hT : TabOk P T) (o : Oper) {H : List Blk} {k : VK} (h : quietF T H ts o.op k) (ho : o.op.operands.toList.all opOk = true) (hv : SRs μ ts a.tmps.toList) :
    (isLd o.op = false ∧ ∃ v cv, k v ∧ VR μ v cv ∧ ∀ w, (execOp a.eval o).run P w = .ok (.value cv) w) ∨
    (∃ t x i off v, o.op = .load t x ∧ opV ts x = some (.pointer (some ⟨i, off, none⟩)) ∧ k v ∧ LdOk T H t i off v) := by
  obtain ⟨dst, op, type, pos, after, guard⟩ := o
  simp only at h ho ⊢
  cases op
  case load t x =>
    replace h := ev_iff h
    obtain ⟨p, hp, h⟩ := h
    obtain ⟨i, off, v, rfl, hk, hl⟩ := load_sound h
    exact .inr ⟨t, x, i, off, v, rfl, hp, hk, hl⟩
  all_goals refine .inl ⟨rfl, ?_⟩
  all_goals simp only [Op.operands, List.all_cons, List.all_nil, Bool.and_true, Bool.and_eq_true] at ho
  case move x => obtain ⟨v, hk, hr⟩ := ev_sound hv h ho; exact ⟨v, _, hk, hr, fun w => rfl⟩
  case assign x => obtain ⟨v, hk, hr⟩ := ev_sound hv h ho; exact ⟨v, _, hk, hr, fun w => rfl⟩
  case pick c x y =>
    replace h := ev_sound hv h ho.1
    obtain ⟨q, h, hq⟩ := h
    cases q <;> first | exact False.elim h | skip
    rename_i b
    have hc : a.eval c = .bool b := by generalize a.eval c = z at hq; cases hq; rfl
    rcases bif_iff h with ⟨rfl, h⟩ | ⟨rfl, h⟩
    · obtain ⟨v, hk, hr⟩ := ev_sound hv h ho.2.1; exact ⟨v, _, hk, hr, fun w => by simp [execOp, hc, asBool]⟩
    · obtain ⟨v, hk, hr⟩ := ev_sound hv h ho.2.2; exact ⟨v, _, hk, hr, fun w => by simp [execOp, hc, asBool]⟩
  case build t ps =>
    replace h := evp_sound hv ps.toList h (by simpa using ho)
    obtain ⟨vs, h, hp⟩ := h
    obtain ⟨v, cv, hk, hr, hrun⟩ := build_sound hT h hp
    refine ⟨v, cv, hk, hr, fun w => ?_⟩
    have e : (ps.map fun x => match x with | (i, x) => (i, a.eval x)) = (ps.toList.map fun p => (p.1, a.eval p.2)).toArray := by
      apply Array.ext'; simp
    simp only [execOp, e, Sem.run_bind, hrun w, Result.andThen_ok, Sem.run_pure]
  case nilCheck x =>
    replace h := ev_sound hv h ho
    obtain ⟨q, h, hq⟩ := h
    split at h
    · obtain ⟨b, hb, hμ⟩ := hq.of_ptr
      exact ⟨_, _, h, .ptr _ _ _ hμ, fun w => by simp [execOp, hb]⟩
    · rename_i f c1 c2
      have hq' := hq
      generalize hz : a.eval x = z at hq
      cases hq
      exact ⟨_, _, h, hz ▸ hq', fun w => by simp [execOp, hz]⟩
    · exact False.elim h
  case binOp op t x y u =>
    replace h := ev_sound hv h ho.1
    obtain ⟨vx, h, hx⟩ := h
    replace h := ev_sound hv h ho.2
    obtain ⟨vy, h, hy⟩ := h
    obtain ⟨v, cv, hk, hr, hrun⟩ := bin_sound hT h hx hy
    refine ⟨v, cv, hk, hr, fun w => ?_⟩
    have := hrun w x y
    simp only [execOp]
    rw [Sem.run_bind, this]
    rfl
  case unOp op t x =>
    replace h := ev_sound hv h ho
    obtain ⟨vx, h, hx⟩ := h
    obtain ⟨v, cv, hk, hr, hrun⟩ := un_sound (P := P) h hx
    exact ⟨v, cv, hk, hr, fun w => by simp [execOp, hrun w]⟩
  case convert s d x =>
    replace h := ev_sound hv h ho
    obtain ⟨vx, h, hx⟩ := h
    obtain ⟨v, cv, hk, hr, hrun⟩ := conv_sound hT h hx
    exact ⟨v, cv, hk, hr, fun w => by simp [execOp, hrun w]⟩
  case makeFunc fn f c =>
    cases fn <;> first | exact False.elim h | skip
    rename_i g
    simp only [Array.toList_append, List.all_append, Bool.and_eq_true] at ho
    replace h := evs_sound hv f.toList h ho.1
    obtain ⟨fs, h, hf⟩ := h
    replace h := evs_sound hv c.toList h ho.2
    obtain ⟨cs, h, hc⟩ := h
    refine ⟨_, .func (.func g) (f.map a.eval) (c.map a.eval), h, .fn _ _ _ _ _ (by simpa using hf.1) (by simpa using hc.1) (fun i x y hx hy => hf.2 i x y (by simpa using hx) (by simpa using hy)) (fun i x y hx hy => hc.2 i x y (by simpa using hx) (by simpa using hy)), fun w => rfl⟩
  case slice t x lo hi mx =>
    simp only [Array.toList_append, List.all_append, Bool.and_eq_true, List.all_cons, List.all_nil, Bool.and_true] at ho
    obtain ⟨⟨⟨h1, h2⟩, h3⟩, h4⟩ := ho
    replace h := ev_sound hv h (by simpa using h1)
    obtain ⟨vx, h, hx⟩ := h
    replace h := evo_sound hv lo h (by simpa using h2)
    obtain ⟨vl, h, hl⟩ := h
    replace h := evo_sound hv hi h (by simpa using h3)
    obtain ⟨vh, h, hh⟩ := h
    replace h := evo_sound hv mx h (by simpa using h4)
    obtain ⟨vm, h, hm⟩ := h
    obtain ⟨v, cv, hk, hr, hrun⟩ := slice_sound hT h hx hl hh hm
    exact ⟨v, cv, hk, hr, fun w => by simp [execOp, hrun w]⟩
  case fieldAddr s x f =>
    replace h := ev_sound hv h ho
    obtain ⟨vx, h, hx⟩ := h
    obtain ⟨v, cv, hk, hr, hrun⟩ := fieldAddr_sound hT h hx
    exact ⟨v, cv, hk, hr, fun w => by simp [execOp, hrun w]⟩
  case field s x f =>
    replace h := ev_sound hv h ho
    obtain ⟨vx, h, hx⟩ := h
    obtain ⟨v, cv, hk, hr, hrun⟩ := field_sound hT h hx
    exact ⟨v, cv, hk, hr, fun w => by simp [execOp, hrun w]⟩
  case indexAddr t x i =>
    replace h := ev_sound hv h ho.1
    obtain ⟨vx, h, hx⟩ := h
    replace h := ev_sound hv h ho.2
    obtain ⟨vi, h, hi⟩ := h
    obtain ⟨v, cv, hk, hr, hrun⟩ := indexAddr_sound hT h hx hi
    exact ⟨v, cv, hk, hr, fun w => by simp [execOp, hrun w]⟩
  case index t x i =>
    replace h := ev_sound hv h ho.1
    obtain ⟨vx, h, hx⟩ := h
    replace h := ev_sound hv h ho.2
    obtain ⟨vi, h, hi⟩ := h
    obtain ⟨v, cv, hk, hr, hrun⟩ := index_sound hT h hx hi
    exact ⟨v, cv, hk, hr, fun w => by simp [execOp, hrun w]⟩
  case sliceToArrayPointer arr x =>
    obtain ⟨vx, h, hx⟩ := ev_sound hv h ho
    replace h := tinfF_iff h
    obtain ⟨i, hi, h⟩ := h
    split at h
    · rename_i n e b o len cap hd
      obtain ⟨hq, h⟩ := req_iff h
      have hle := Nat.le_of_ble_eq_true hq
      generalize hz : a.eval x = z at hx
      cases hx with
      | sl _ b' _ _ _ hμ => exact ⟨_, _, h, .ptr _ _ _ hμ, fun w => by simp [execOp, hz, Instr.arrayAt, hT.underlying hi w, hd, show ¬ len < n by omega]⟩
    · exact False.elim h
  case extract x i =>
    replace h := ev_sound hv h ho
    obtain ⟨vx, h, hx⟩ := h
    cases vx <;> first | exact False.elim h | skip
    rename_i vs
    obtain ⟨v, hvs, hk⟩ := getF_iff h
    obtain ⟨vs', he, hs⟩ := hx.of_tup
    obtain ⟨cv, hcv, hr⟩ := hs.get hvs
    have hcv' : vs'[i]? = some cv := by simpa using hcv
    exact ⟨v, cv, hk, hr, fun w => by simp [execOp, he, Instr.extract, hcv']⟩
  case call c =>
    obtain ⟨callee, args, tys⟩ := c
    cases callee <;> first | exact False.elim h | skip
    rename_i b
    simp only [Call.operands, Array.toList_append, List.all_append, Bool.and_eq_true, List.all_nil, true_and] at ho
    cases b <;> first | exact False.elim h | skip
    case len =>
      replace h := getF_iff h
      obtain ⟨t, ht, h⟩ := h
      replace h := getF_iff h
      obtain ⟨x, hx, h⟩ := h
      have hxo : opOk x = true := (List.all_eq_true.1 ho) x (List.mem_of_getElem? hx)
      replace h := ev_sound hv h hxo
      obtain ⟨vx, h, hxr⟩ := h
      replace h := tinfF_iff h
      obtain ⟨i, hi, h⟩ := h
      have ht' : tys[0]? = some t := by simpa using ht
      have hx' : args[0]? = some x := by simpa using hx
      split at h
      · rename_i n e _ hd
        exact ⟨_, _, h, .int _ _, fun w => by simp [execOp, resolve, invoke, builtin, Builtin.len_, ht', hx', hT.underlying hi w, hd, goInt]⟩
      · rename_i e p n c hd
        generalize hz : a.eval x = z at hxr
        cases hxr
        · exact ⟨_, _, h, .int _ _, fun w => by simp [execOp, resolve, invoke, builtin, Builtin.len_, ht', hx', hz, hT.underlying hi w, hd, goInt]⟩
        · exact ⟨_, _, h, .int _ _, fun w => by simp [execOp, resolve, invoke, builtin, Builtin.len_, ht', hx', hz, hT.underlying hi w, hd, goInt]⟩
      · exact False.elim h
    case min =>
      replace h := evs_sound hv args.toList h ho
      obtain ⟨vs, h, hvs⟩ := h
      cases vs with
      | nil => exact False.elim h
      | cons v vs =>
        cases hl : args.toList.map a.eval with
        | nil => rw [hl] at hvs; exact absurd hvs.1 (by simp)
        | cons v' vs' =>
          rw [hl] at hvs
          obtain ⟨r, cr, hk, hr, hrun⟩ := min_sound (μ := μ) (P := P) (g := Builtin.min2) (fun k a k' b w => rfl) vs vs' v v' k h (hvs.2 0 v v' rfl rfl) (by simpa using hvs.drop 1)
          exact ⟨r, cr, hk, hr, fun w => by simp [execOp, resolve, invoke, builtin, Builtin.min_, hl, hrun w]⟩
    case max =>
      replace h := evs_sound hv args.toList h ho
      obtain ⟨vs, h, hvs⟩ := h
      cases vs with
      | nil => exact False.elim h
      | cons v vs =>
        cases hl : args.toList.map a.eval with
        | nil => rw [hl] at hvs; exact absurd hvs.1 (by simp)
        | cons v' vs' =>
          rw [hl] at hvs
          obtain ⟨r, cr, hk, hr, hrun⟩ := min_sound (μ := μ) (P := P) (g := Builtin.max2) (fun k a k' b w => rfl) vs vs' v v' k h (hvs.2 0 v v' rfl rfl) (by simpa using hvs.drop 1)
          exact ⟨r, cr, hk, hr, fun w => by simp [execOp, resolve, invoke, builtin, Builtin.max_, hl, hrun w]⟩
  all_goals exact False.elim h
end
end Go.Aw
end
