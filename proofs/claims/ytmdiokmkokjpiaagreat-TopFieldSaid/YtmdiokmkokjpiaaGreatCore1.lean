/-
  Abstract heaps: values up to a naming of blocks ('VR'), a world that holds a named heap ('Rel'), and what a run leaves alone ('Ext').
-/
import Derived.Orders
import Derived.Laws.Entries
import Derived.Laws.Cells
import Derived.Laws.CopyRow
import Derived.Laws.Rows
import Derived.KernelRfl
set_option linter.all false
set_option linter.unusedVariables false
set_option linter.unusedSimpArgs false
set_option linter.unnecessarySimpa false
namespace Go.Aw

/-- A value whose pointers name blocks, and the value that it stands for where the name 'i' is the block 'μ[i]'. -/
inductive VR (μ : List Nat) : Value → Value → Prop
  | bool (b : Bool) : VR μ (.bool b) (.bool b)
  | int (k : IntKind) (n : Int) : VR μ (.int k n) (.int k n)
  | str (s : ByteArray) : VR μ (.string s) (.string s)
  | ptrN : VR μ (.pointer none) (.pointer none)
  | ptr (i b o : Nat) (h : μ[i]? = some b) : VR μ (.pointer (some ⟨i, o, none⟩)) (.pointer (some ⟨b, o, none⟩))
  | slN (l c : Nat) : VR μ (.slice none l c) (.slice none l c)
  | sl (i b o l c : Nat) (h : μ[i]? = some b) : VR μ (.slice (some ⟨i, o, none⟩) l c) (.slice (some ⟨b, o, none⟩) l c)
  | fn (f : FuncId) (a a' c c' : Array Value) (ha : a.size = a'.size) (hc : c.size = c'.size)
      (ra : ∀ (i : Nat) (x y : Value), a[i]? = some x → a'[i]? = some y → VR μ x y) (rc : ∀ (i : Nat) (x y : Value), c[i]? = some x → c'[i]? = some y → VR μ x y) :
      VR μ (.func (.func f) a c) (.func (.func f) a' c')
  | nilF : VR μ .nilFunc .nilFunc
  | nilI : VR μ .nilIface .nilIface
  | ifc (t : TypeId) (v v' : Value) (h : VR μ v v') : VR μ (.iface t v) (.iface t v')
  | agg (c c' : Array Value) (hc : c.size = c'.size) (rc : ∀ (i : Nat) (x y : Value), c[i]? = some x → c'[i]? = some y → VR μ x y) : VR μ (.agg c) (.agg c')
  | tup (c c' : Array Value) (hc : c.size = c'.size) (rc : ∀ (i : Nat) (x y : Value), c[i]? = some x → c'[i]? = some y → VR μ x y) : VR μ (.tuple c) (.tuple c')

/-- Lists of them. -/
def VRs (μ : List Nat) (l l' : List Value) : Prop := l.length = l'.length ∧ ∀ (i : Nat) (x y : Value), l[i]? = some x → l'[i]? = some y → VR μ x y

theorem VR.mono {μ ν : List Nat} (hp : ∀ (i b : Nat), μ[i]? = some b → ν[i]? = some b) {v v' : Value} (h : VR μ v v') : VR ν v v' := by
  induction h with
  | bool b => exact .bool b
  | int k n => exact .int k n
  | str s => exact .str s
  | ptrN => exact .ptrN
  | ptr i b o h => exact .ptr i b o (hp _ _ h)
  | slN l c => exact .slN l c
  | sl i b o l c h => exact .sl i b o l c (hp _ _ h)
  | fn f a a' c c' ha hc _ _ ra rc => exact .fn f a a' c c' ha hc ra rc
  | nilF => exact .nilF
  | nilI => exact .nilI
  | ifc t v v' _ ih => exact .ifc t v v' ih
  | agg c c' hc _ rc => exact .agg c c' hc rc
  | tup c c' hc _ rc => exact .tup c c' hc rc

theorem VRs.mono {μ ν : List Nat} (hp : ∀ (i b : Nat), μ[i]? = some b → ν[i]? = some b) {l l' : List Value} (h : VRs μ l l') : VRs ν l l' :=
  ⟨h.1, fun i x y hx hy => (h.2 i x y hx hy).mono hp⟩

theorem arr_ext {c' c'' : Array Value} (hs : c'.size = c''.size) (h : ∀ (i : Nat) (x y : Value), c'[i]? = some x → c''[i]? = some y → x = y) : c' = c'' := by
  apply Array.ext hs
  intro i h1 h2
  exact h i _ _ (Array.getElem?_eq_getElem h1) (Array.getElem?_eq_getElem h2)

theorem VR.functional {μ : List Nat} {v v' : Value} (h : VR μ v v') : ∀ v'' : Value, VR μ v v'' → v' = v'' := by
  induction h with
  | bool b => intro _ k; cases k; rfl
  | int k n => intro _ k; cases k; rfl
  | str s => intro _ k; cases k; rfl
  | ptrN => intro _ k; cases k; rfl
  | ptr i b o h => intro _ k; cases k with | ptr _ b' _ h' => rw [h] at h'; cases h'; rfl
  | slN l c => intro _ k; cases k; rfl
  | sl i b o l c h => intro _ k; cases k with | sl _ b' _ _ _ h' => rw [h] at h'; cases h'; rfl
  | fn f a a' c c' ha hc ra rc iha ihc =>
    intro _ k
    cases k with
    | fn _ _ a'' _ c'' ha' hc' ra' rc' =>
      have e1 : a' = a'' := arr_ext (by omega) fun i x y hx hy => by
        have hi : i < a.size := by have := (Array.getElem?_eq_some_iff.1 hx).1; omega
        exact iha i _ x (Array.getElem?_eq_getElem hi) hx y (ra' i _ y (Array.getElem?_eq_getElem hi) hy)
      have e2 : c' = c'' := arr_ext (by omega) fun i x y hx hy => by
        have hi : i < c.size := by have := (Array.getElem?_eq_some_iff.1 hx).1; omega
        exact ihc i _ x (Array.getElem?_eq_getElem hi) hx y (rc' i _ y (Array.getElem?_eq_getElem hi) hy)
      rw [e1, e2]
  | nilF => intro _ k; cases k; rfl
  | nilI => intro _ k; cases k; rfl
  | ifc t v v' _ ih => intro _ k; cases k with | ifc _ _ w h' => rw [ih _ h']
  | agg c c' hc rc ihc =>
    intro _ k
    cases k with
    | agg _ c'' hc' rc' =>
      have e2 : c' = c'' := arr_ext (by omega) fun i x y hx hy => by
        have hi : i < c.size := by have := (Array.getElem?_eq_some_iff.1 hx).1; omega
        exact ihc i _ x (Array.getElem?_eq_getElem hi) hx y (rc' i _ y (Array.getElem?_eq_getElem hi) hy)
      rw [e2]
  | tup c c' hc rc ihc =>
    intro _ k
    cases k with
    | tup _ c'' hc' rc' =>
      have e2 : c' = c'' := arr_ext (by omega) fun i x y hx hy => by
        have hi : i < c.size := by have := (Array.getElem?_eq_some_iff.1 hx).1; omega
        exact ihc i _ x (Array.getElem?_eq_getElem hi) hx y (rc' i _ y (Array.getElem?_eq_getElem hi) hy)
      rw [e2]

theorem VRs.functional {μ : List Nat} {l l' l'' : List Value} (h : VRs μ l l') (k : VRs μ l l'') : l' = l'' := by
  apply List.ext_getElem (by rw [← h.1, ← k.1])
  intro i h1 h2
  have hi : i < l.length := by rw [h.1]; exact h1
  exact (h.2 i _ _ (List.getElem?_eq_getElem hi) (List.getElem?_eq_getElem h1)).functional _ (k.2 i _ _ (List.getElem?_eq_getElem hi) (List.getElem?_eq_getElem h2))

section lists
variable {μ : List Nat}
theorem VRs.nil : VRs μ [] [] := ⟨rfl, fun i x y h _ => by simp at h⟩
theorem VRs.get {l l' : List Value} (h : VRs μ l l') {i : Nat} {x : Value} (hx : l[i]? = some x) : ∃ y, l'[i]? = some y ∧ VR μ x y := by
  have hi : i < l.length := (List.getElem?_eq_some_iff.1 hx).1
  have hi' : i < l'.length := by rw [← h.1]; exact hi
  exact ⟨_, List.getElem?_eq_getElem hi', h.2 i x _ hx (List.getElem?_eq_getElem hi')⟩
theorem VRs.none {l l' : List Value} (h : VRs μ l l') {i : Nat} (hx : l[i]? = none) : l'[i]? = none := by
  rw [List.getElem?_eq_none_iff] at *; rw [← h.1]; exact hx
theorem VRs.cons {x y : Value} {l l' : List Value} (h : VR μ x y) (hl : VRs μ l l') : VRs μ (x :: l) (y :: l') := by
  refine ⟨by simp [hl.1], fun i a b ha hb => ?_⟩
  cases i with
  | zero => simp at ha hb; subst ha; subst hb; exact h
  | succ i => simp at ha hb; exact hl.2 i a b ha hb
theorem VRs.append {a a' b b' : List Value} (h : VRs μ a a') (k : VRs μ b b') : VRs μ (a ++ b) (a' ++ b') := by
  refine ⟨by simp [h.1, k.1], fun i x y hx hy => ?_⟩
  rw [List.getElem?_append] at hx hy
  rw [← h.1] at hy
  split at hx
  · rename_i hlt; rw [if_pos hlt] at hy; exact h.2 i x y hx hy
  · rename_i hlt; rw [if_neg hlt] at hy; exact k.2 _ x y hx hy
theorem VRs.set {l l' : List Value} (h : VRs μ l l') (i : Nat) {x y : Value} (hxy : VR μ x y) : VRs μ (l.set i x) (l'.set i y) := by
  refine ⟨by simp [h.1], fun j a b ha hb => ?_⟩
  rw [List.getElem?_set] at ha hb
  rw [← h.1] at hb
  split at ha
  · rename_i hij
    rw [if_pos hij] at hb
    split at ha
    · rename_i hl; rw [if_pos hl] at hb; cases ha; cases hb; exact hxy
    · cases ha
  · rename_i hij; rw [if_neg hij] at hb; exact h.2 j a b ha hb
theorem VRs.take {l l' : List Value} (h : VRs μ l l') (n : Nat) : VRs μ (l.take n) (l'.take n) := by
  refine ⟨by simp [h.1], fun j a b ha hb => ?_⟩
  rw [List.getElem?_take] at ha hb
  split at ha
  · rename_i hl; rw [if_pos hl] at hb; exact h.2 j a b ha hb
  · cases ha
theorem VRs.drop {l l' : List Value} (h : VRs μ l l') (n : Nat) : VRs μ (l.drop n) (l'.drop n) := by
  refine ⟨by simp [h.1], fun j a b ha hb => ?_⟩
  rw [List.getElem?_drop] at ha hb
  exact h.2 _ a b ha hb
theorem VRs.replicate (n : Nat) {x y : Value} (h : VR μ x y) : VRs μ (List.replicate n x) (List.replicate n y) := by
  refine ⟨by simp, fun j a b ha hb => ?_⟩
  rw [List.getElem?_replicate] at ha hb
  split at ha
  · rename_i hl; rw [if_pos hl] at hb; cases ha; cases hb; exact h
  · cases ha
theorem VR.undef : VR μ undef undef := .tup #[] #[] rfl fun i x y h _ => by simp at h
theorem VR.aggs {c c' : List Value} (h : VRs μ c c') : VR μ (.agg c.toArray) (.agg c'.toArray) :=
  .agg _ _ (by simpa using h.1) fun i x y hx hy => h.2 i x y (by simpa using hx) (by simpa using hy)
theorem VR.tups {c c' : List Value} (h : VRs μ c c') : VR μ (.tuple c.toArray) (.tuple c'.toArray) :=
  .tup _ _ (by simpa using h.1) fun i x y hx hy => h.2 i x y (by simpa using hx) (by simpa using hy)
theorem VR.of_agg {c : Array Value} {v : Value} (h : VR μ (.agg c) v) : ∃ c' : Array Value, v = .agg c' ∧ VRs μ c.toList c'.toList := by
  cases h with
  | agg _ c' hc rc => exact ⟨c', rfl, by simpa using hc, fun i x y hx hy => rc i x y (by simpa using hx) (by simpa using hy)⟩
theorem VR.of_tup {c : Array Value} {v : Value} (h : VR μ (.tuple c) v) : ∃ c' : Array Value, v = .tuple c' ∧ VRs μ c.toList c'.toList := by
  cases h with
  | tup _ c' hc rc => exact ⟨c', rfl, by simpa using hc, fun i x y hx hy => rc i x y (by simpa using hx) (by simpa using hy)⟩
theorem VR.cells {v v' : Value} (h : VR μ v v') : VRs μ v.cells.toList v'.cells.toList := by
  cases h
  case agg c c' hc rc => exact ⟨by simpa [Value.cells] using hc, fun i x y hx hy => rc i x y (by simpa [Value.cells] using hx) (by simpa [Value.cells] using hy)⟩
  all_goals (refine VRs.cons ?_ VRs.nil; first | exact .bool _ | exact .int _ _ | exact .str _ | exact .ptrN | (exact .ptr _ _ _ ‹_›) | exact .slN _ _ | (exact .sl _ _ _ _ _ ‹_›) | (exact .fn _ _ _ _ _ ‹_› ‹_› ‹_› ‹_›) | exact .nilF | exact .nilI | (exact .ifc _ _ _ ‹_›) | (exact .tup _ _ ‹_› ‹_›))
theorem VR.oneCell {v v' : Value} (h : VR μ v v') : v'.oneCell' = v.oneCell' := by cases h <;> rfl
end lists

/-! ## Frames: a slot of which nothing is known any more holds 'junk' -/
abbrev junk : Value := .chan none
def SR (μ : List Nat) (v cv : Value) : Prop := v = junk ∨ VR μ v cv
def SRs (μ : List Nat) (l l' : List Value) : Prop := l.length = l'.length ∧ ∀ (i : Nat) (x y : Value), l[i]? = some x → l'[i]? = some y → SR μ x y
theorem VRs.sr {μ : List Nat} {l l' : List Value} (h : VRs μ l l') : SRs μ l l' := ⟨h.1, fun i x y hx hy => .inr (h.2 i x y hx hy)⟩
theorem SR.mono {μ ν : List Nat} (hp : ∀ (i b : Nat), μ[i]? = some b → ν[i]? = some b) {v v' : Value} (h : SR μ v v') : SR ν v v' := h.elim .inl fun h => .inr (h.mono hp)
theorem SRs.mono {μ ν : List Nat} (hp : ∀ (i b : Nat), μ[i]? = some b → ν[i]? = some b) {l l' : List Value} (h : SRs μ l l') : SRs ν l l' :=
  ⟨h.1, fun i x y hx hy => (h.2 i x y hx hy).mono hp⟩
theorem SRs.get {μ : List Nat} {l l' : List Value} (h : SRs μ l l') {i : Nat} {x : Value} (hx : l[i]? = some x) : ∃ y, l'[i]? = some y ∧ SR μ x y := by
  have hi : i < l.length := (List.getElem?_eq_some_iff.1 hx).1
  have hi' : i < l'.length := by rw [← h.1]; exact hi
  exact ⟨_, List.getElem?_eq_getElem hi', h.2 i x _ hx (List.getElem?_eq_getElem hi')⟩
theorem SRs.set {μ : List Nat} {l l' : List Value} (h : SRs μ l l') (i : Nat) {x y : Value} (hxy : VR μ x y) : SRs μ (l.set i x) (l'.set i y) := by
  refine ⟨by simp [h.1], fun j a b ha hb => ?_⟩
  rw [List.getElem?_set] at ha hb
  rw [← h.1] at hb
  split at ha
  · rename_i hij
    rw [if_pos hij] at hb
    split at ha
    · rename_i hl; rw [if_pos hl] at hb; cases ha; cases hb; exact .inr hxy
    · cases ha
  · rename_i hij; rw [if_neg hij] at hb; exact h.2 j a b ha hb
/-- What is handed on is known. -/
def sureF (v : Value) (k : Value → Prop) : Prop := match v with | .chan _ => False | v => k v
theorem sure_iff {v : Value} {k : Value → Prop} (h : sureF v k) : v ≠ junk ∧ k v := by
  unfold sureF at h
  split at h
  · exact False.elim h
  · rename_i hv; exact ⟨fun e => hv none e, h⟩
theorem sure_of {v : Value} (hv : v ≠ junk) {μ : List Nat} {cv : Value} (h : SR μ v cv) : VR μ v cv := h.elim (fun e => absurd e hv) id

/-! ## Named heaps -/

/-- A block of a named heap: cells that the run may write; cells that it only reads (known as far as 'f' knows them); a block of which nothing is known any more. -/
inductive Blk where
  | cells (c : List Value) (e : TypeId)
  | ro (f : Nat → Option Value)
  | gone

/-- The world holds the heap, each name at its block. -/
structure Rel (μ : List Nat) (H : List Blk) (w : World) : Prop where
  len : H.length = μ.length
  nd : μ.Nodup
  lt : ∀ b ∈ μ, b < w.heap.size
  blk : ∀ (i b : Nat) (c : List Value) (e : TypeId), H[i]? = some (.cells c e) → μ[i]? = some b → ∃ c' : List Value, w.heap[b]? = some (.cells c'.toArray e (0, 0)) ∧ VRs μ c c'
  rob : ∀ (i b : Nat) (f : Nat → Option Value), H[i]? = some (.ro f) → μ[i]? = some b → ∀ (o : Nat) (v : Value), f o = some v → ∃ v', w.cell? ⟨b, o, none⟩ = some v' ∧ VR μ v v'

def Own (μ : List Nat) (H : List Blk) (b : Nat) : Prop := ∃ (i : Nat) (c : List Value) (e : TypeId), μ[i]? = some b ∧ H[i]? = some (.cells c e)

/-- What a run from (μ, H, w) to (μ', H', w') leaves alone. -/
structure Ext (μ : List Nat) (H : List Blk) (w : World) (μ' : List Nat) (H' : List Blk) (w' : World) : Prop where
  pre : ∃ ext : List Nat, μ' = μ ++ ext ∧ ∀ b ∈ ext, w.heap.size ≤ b
  size : w.heap.size ≤ w'.heap.size
  os : w'.os = w.os
  tape : w'.tape = w.tape
  output : w'.output = w.output
  same : ∀ b, b < w.heap.size → ¬ Own μ H b → w'.heap[b]? = w.heap[b]?
  own : ∀ (i : Nat) (c : List Value) (e : TypeId), i < H.length → H'[i]? = some (.cells c e) → ∃ c0 e0, H[i]? = some (.cells c0 e0)

theorem Ext.refl (μ : List Nat) (H : List Blk) (w : World) : Ext μ H w μ H w :=
  ⟨⟨[], by simp, by simp⟩, Nat.le_refl _, rfl, rfl, rfl, fun _ _ _ => rfl, fun i c e _ h => ⟨c, e, h⟩⟩

theorem Ext.sub {μ μ' : List Nat} {H H' : List Blk} {w w' : World} (h : Ext μ H w μ' H' w') : ∀ (i b : Nat), μ[i]? = some b → μ'[i]? = some b := by
  obtain ⟨ext, rfl, _⟩ := h.pre
  intro i b hi
  rw [List.getElem?_append_left (List.getElem?_eq_some_iff.1 hi).1]; exact hi

theorem Ext.trans {μ μ1 μ2 : List Nat} {H H1 H2 : List Blk} {w w1 w2 : World} (hl : H.length = μ.length) (hl1 : H1.length = μ1.length) (h : Ext μ H w μ1 H1 w1) (k : Ext μ1 H1 w1 μ2 H2 w2) : Ext μ H w μ2 H2 w2 := by
  obtain ⟨e1, he1, hb1⟩ := h.pre
  obtain ⟨e2, he2, hb2⟩ := k.pre
  subst he1; subst he2
  refine ⟨⟨e1 ++ e2, by simp, fun b hb => ?_⟩, Nat.le_trans h.size k.size, k.os.trans h.os, k.tape.trans h.tape, k.output.trans h.output, fun b hb hn => ?_, fun i c e hi hc => ?_⟩
  · rcases List.mem_append.1 hb with hb | hb
    · exact hb1 b hb
    · exact Nat.le_trans h.size (hb2 b hb)
  · rw [k.same b (Nat.lt_of_lt_of_le hb h.size), h.same b hb hn]
    rintro ⟨i, c, e, hi, hc⟩
    by_cases hlt : i < μ.length
    · rw [List.getElem?_append_left hlt] at hi
      obtain ⟨c0, e0, h0⟩ := h.own i c e (by omega) hc
      exact hn ⟨i, c0, e0, hi, h0⟩
    · rw [List.getElem?_append_right (by omega)] at hi
      have := hb1 b (List.mem_of_getElem? hi)
      omega
  · have hi1 : i < H1.length := by simp at hl1; omega
    obtain ⟨c1, e1', h1⟩ := k.own i c e hi1 hc
    exact h.own i c1 e1' hi h1

theorem Ext.drew {μ μ' : List Nat} {H H' : List Blk} {w w' : World} (h : Ext μ H w μ' H' w') : Ext μ H w μ' H' w'.drew := ⟨h.pre, h.size, h.os, h.tape, h.output, h.same, h.own⟩
theorem Ext.of_drew {μ μ' : List Nat} {H H' : List Blk} {w w' : World} (h : Ext μ H w.drew μ' H' w') : Ext μ H w μ' H' w' := ⟨h.pre, h.size, h.os, h.tape, h.output, h.same, h.own⟩
theorem Rel.drew {μ : List Nat} {H : List Blk} {w : World} (h : Rel μ H w) : Rel μ H w.drew := ⟨h.len, h.nd, h.lt, h.blk, h.rob⟩

theorem nodup_inj {μ : List Nat} (h : μ.Nodup) {i j b : Nat} (hi : μ[i]? = some b) (hj : μ[j]? = some b) : i = j := by
  obtain ⟨h1, e1⟩ := List.getElem?_eq_some_iff.1 hi
  obtain ⟨h2, e2⟩ := List.getElem?_eq_some_iff.1 hj
  exact (List.getElem_inj h).1 (e1.trans e2.symm)

/-- A new block. -/
theorem Rel.alloc {μ : List Nat} {H : List Blk} {w : World} (h : Rel μ H w) {c c' : List Value} (e : TypeId) (hc : VRs μ c c') :
    Rel (μ ++ [w.heap.size]) (H ++ [.cells c e]) (w.alloc (.cells c'.toArray e)) ∧ Ext μ H w (μ ++ [w.heap.size]) (H ++ [.cells c e]) (w.alloc (.cells c'.toArray e)) := by
  have hmono : ∀ (i b : Nat), μ[i]? = some b → (μ ++ [w.heap.size])[i]? = some b := fun i b hi => by
    rw [List.getElem?_append_left (List.getElem?_eq_some_iff.1 hi).1]; exact hi
  have hsz : (w.alloc (.cells c'.toArray e)).heap.size = w.heap.size + 1 := by simp
  have hold : ∀ b, b < w.heap.size → (w.alloc (.cells c'.toArray e)).heap[b]? = w.heap[b]? := fun b hb => heap_alloc_old w _ b hb
  have hlast : (μ ++ [w.heap.size])[μ.length]? = some w.heap.size := by simp
  constructor
  · refine ⟨by simp [h.len], ?_, ?_, ?_, ?_⟩
    · rw [List.nodup_append]
      refine ⟨h.nd, by simp, ?_⟩
      intro a ha b hb hab
      simp at hb
      have := h.lt a ha
      omega
    · intro b hb
      rw [hsz]
      rcases List.mem_append.1 hb with hb | hb
      · have := h.lt b hb; omega
      · simp at hb; omega
    · intro i b c1 e1 hH hμ
      by_cases hlt : i < H.length
      · rw [List.getElem?_append_left hlt] at hH
        rw [List.getElem?_append_left (by rw [← h.len]; exact hlt)] at hμ
        obtain ⟨c2, h2, hv⟩ := h.blk i b c1 e1 hH hμ
        exact ⟨c2, by rw [hold b (h.lt b (List.mem_of_getElem? hμ))]; exact h2, hv.mono hmono⟩
      · have hi : i = H.length := by
          have := (List.getElem?_eq_some_iff.1 hH).1; simp at this; omega
        subst hi
        simp at hH
        rw [h.len, hlast] at hμ
        cases hμ
        obtain ⟨rfl, rfl⟩ := hH
        exact ⟨c', heap_alloc_new w _, hc.mono hmono⟩
    · intro i b f hH hμ o v hf
      by_cases hlt : i < H.length
      · rw [List.getElem?_append_left hlt] at hH
        rw [List.getElem?_append_left (by rw [← h.len]; exact hlt)] at hμ
        obtain ⟨v', h2, hv⟩ := h.rob i b f hH hμ o v hf
        refine ⟨v', ?_, hv.mono hmono⟩
        rw [World.cell?_alloc_lt w _ _ (h.lt b (List.mem_of_getElem? hμ))]
        exact h2
      · have hi : i = H.length := by
          have := (List.getElem?_eq_some_iff.1 hH).1; simp at this; omega
        subst hi
        simp at hH
  · refine ⟨⟨[w.heap.size], rfl, by simp⟩, by omega, rfl, rfl, rfl, fun b hb _ => hold b hb, fun i c1 e1 hi hH => ?_⟩
    rw [List.getElem?_append_left hi] at hH
    exact ⟨c1, e1, hH⟩

theorem setRow_other (w : World) (g b : Nat) (c : Array Value) (h : b ≠ g) : (w.setRow g c).heap[b]? = w.heap[b]? := by
  unfold World.setRow
  simp [Array.getElem?_modify, Ne.symm h]

theorem cell?_of_heap_eq {w w' : World} {b : Nat} (h : w'.heap[b]? = w.heap[b]?) (o : Nat) : w'.cell? ⟨b, o, none⟩ = w.cell? ⟨b, o, none⟩ := by
  unfold World.cell?; simp only [h]

/-- Cells of a block are written. -/
theorem Rel.setRow {μ : List Nat} {H : List Blk} {w : World} (h : Rel μ H w) {i b : Nat} {c d d' : List Value} {e : TypeId} (hH : H[i]? = some (.cells c e)) (hμ : μ[i]? = some b) (hd : VRs μ d d') :
    Rel μ (H.set i (.cells d e)) (w.setRow b d'.toArray) ∧ Ext μ H w μ (H.set i (.cells d e)) (w.setRow b d'.toArray) := by
  obtain ⟨c', hw, _⟩ := h.blk i b c e hH hμ
  have hlt : i < H.length := (List.getElem?_eq_some_iff.1 hH).1
  have hsz : (w.setRow b d'.toArray).heap.size = w.heap.size := by unfold World.setRow; simp
  constructor
  · refine ⟨by simp [h.len], h.nd, fun x hx => by rw [hsz]; exact h.lt x hx, ?_, ?_⟩
    · intro j x c1 e1 hj hx
      rw [List.getElem?_set] at hj
      split at hj
      · rename_i hij
        subst hij
        simp [hlt] at hj
        obtain ⟨rfl, rfl⟩ := hj
        rw [hμ] at hx; cases hx
        exact ⟨d', setRow_heap w b _ d'.toArray e _ hw, hd⟩
      · rename_i hij
        have hne : x ≠ b := fun hxb => hij (nodup_inj h.nd hμ (hxb ▸ hx))
        rw [setRow_other w b x _ hne]
        exact h.blk j x c1 e1 hj hx
    · intro j x f hj hx o v hf
      rw [List.getElem?_set] at hj
      split at hj
      · rename_i hij; simp [hlt] at hj
      · rename_i hij
        have hne : x ≠ b := fun hxb => hij (nodup_inj h.nd hμ (hxb ▸ hx))
        rw [cell?_of_heap_eq (setRow_other w b x _ hne)]
        exact h.rob j x f hj hx o v hf
  · refine ⟨⟨[], by simp, by simp⟩, by omega, rfl, rfl, rfl, fun x hx hn => setRow_other w b x _ fun hxb => hn ⟨i, c, e, hxb ▸ hμ, hH⟩, fun j c1 e1 hj hc1 => ?_⟩
    rw [List.getElem?_set] at hc1
    split at hc1
    · rename_i hij; subst hij; exact ⟨c, e, hH⟩
    · exact ⟨c1, e1, hc1⟩

end Go.Aw
