/-
  Regions that draw their order: an operation may be taken first if nobody who may come before it disturbs what it reads.
-/
import Derived.Test.YtmdiokmkokjpiaaGreatCore2
import Derived.OrdersHeld
set_option linter.all false
set_option linter.unusedVariables false
set_option linter.unusedSimpArgs false
set_option linter.unnecessarySimpa false
namespace Go.Aw
section
variable {P : Program} {ops : Array Oper} {Q : Exit → Act → World → Prop}

abbrev rdy (ops : Array Oper) (l : Array Bool) : List Nat := Region.ready .any ops l

/-- Operation 'j' waits for 'x', in at most 'n' steps. -/
def waits (ops : Array Oper) : Nat → Nat → Nat → Bool
  | 0, _, _ => false
  | n + 1, x, j => match ops[j]? with
    | none => false
    | some o => o.after.toList.any (fun e => Region.binds .any e && e.on == x) || o.after.toList.any (fun e => Region.binds .any e && waits ops n x e.on)

/-- Whoever has come up has those behind it for which it waits. -/
def Down (ops : Array Oper) (l : Array Bool) : Prop := ∀ (j : Nat) (o : Oper), l.getD j false = true → ops[j]? = some o → ∀ e ∈ o.after, Region.binds .any e = true → l.getD e.on false = true

theorem waits_listed {l : Array Bool} (hd : Down ops l) : ∀ (n x j : Nat), waits ops n x j = true → l.getD j false = true → l.getD x false = true
  | 0, _, _, h, _ => by simp [waits] at h
  | n + 1, x, j, h, hj => by
    unfold waits at h
    cases ho : ops[j]? with
    | none => simp [ho] at h
    | some o =>
      simp only [ho, Bool.or_eq_true, List.any_eq_true, Bool.and_eq_true, beq_iff_eq] at h
      rcases h with ⟨e, he, hb, hx⟩ | ⟨e, he, hb, hw⟩
      · rw [← hx]; exact hd j o hj ho e (Array.mem_toList_iff.1 he) hb
      · exact waits_listed hd n x e.on hw (hd j o hj ho e (Array.mem_toList_iff.1 he) hb)

theorem waits_ready {l : Array Bool} (hd : Down ops l) {n x j : Nat} (h : waits ops n x j = true) (hj : j ∈ rdy ops l) : l.getD x false = true := by
  obtain ⟨_, o, ho, hall⟩ := mem_ready.1 hj
  cases n with
  | zero => simp [waits] at h
  | succ n =>
    unfold waits at h
    simp only [ho, Bool.or_eq_true, List.any_eq_true, Bool.and_eq_true, beq_iff_eq] at h
    rcases h with ⟨e, he, hb, hx⟩ | ⟨e, he, hb, hw⟩
    · rw [← hx]; exact hall e (Array.mem_toList_iff.1 he) hb
    · exact waits_listed hd n x e.on hw (hall e (Array.mem_toList_iff.1 he) hb)

theorem getD_two {l : Array Bool} {x : Nat} (h : l.getD x true = false) : l.getD x false = false := by
  rcases Nat.lt_or_ge x l.size with hx | hx
  · simp [hx] at h ⊢; exact h
  · simp [Array.getElem?_eq_none hx] at h

theorem getD_set_false {l : Array Bool} {i j : Nat} (h : (l.setIfInBounds i true).getD j false = true) : j = i ∨ l.getD j false = true := by
  by_cases hij : i = j
  · exact .inl hij.symm
  · rw [getD_set_ne false hij] at h; exact .inr h

theorem Down.set {l : Array Bool} (hd : Down ops l) {i : Nat} (hi : i ∈ rdy ops l) : Down ops (l.setIfInBounds i true) := by
  intro j o hj ho e he hb
  rcases getD_set_false hj with rfl | hj
  · obtain ⟨_, o', ho', hall⟩ := mem_ready.1 hi
    rw [ho] at ho'; cases ho'
    exact getD_set_true (hall e he hb)
  · exact getD_set_true (hd j o hj ho e he hb)

theorem Down.none (n : Nat) : Down ops (Array.replicate n false) := by
  intro j o hj
  simp only [Array.getD_eq_getD_getElem?, Array.getElem?_replicate] at hj
  split at hj <;> simp at hj

abbrev Wish := Nat × (World → Prop)
/-- The wishes that are still to be met behind operation 'j': those of operations for which it does not wait. -/
def Wish.behind (ops : Array Oper) (W : List Wish) (j : Nat) : List Wish := W.filter fun x => !(waits ops 3 x.1 j)
def Met (W : List Wish) (w : World) : Prop := ∀ x ∈ W, x.2 w

theorem Met.behind {W : List Wish} {w : World} (h : Met W w) (j : Nat) : Met (Wish.behind ops W j) w := fun x hx => h x (List.mem_filter.1 hx).1

/-- Whatever order is picked, the wishes are met behind each operation. -/
def anyK (P : Program) (ops : Array Oper) (Q : Exit → Act → World → Prop) : Nat → List Wish → Array Bool → Act → World → Prop
  | 0, _, l, a, w => rdy ops l = [] ∧ Q .normal a w
  | n + 1, W, l, a, w => (rdy ops l = [] → Q .normal a w) ∧ ∀ i ∈ rdy ops l, wpOp P ops Q i (fun a' w' => Met (Wish.behind ops W i) w' ∧ anyK P ops Q n (Wish.behind ops W i) (l.setIfInBounds i true) a' w') a w

theorem any_of_anyK : ∀ (n : Nat) (W : List Wish) (l : Array Bool) (a : Act) (w : World), anyK P ops Q n W l a w → wpAny P .any ops Q n l a w
  | 0, _, _, _, _, h => h
  | n + 1, _, _, _, _, h => ⟨h.1, fun i hi => wpOp_mono (fun a' w' h' => any_of_anyK n _ _ a' w' h'.2) (h.2 i hi)⟩

theorem anyK_sub : ∀ (n : Nat) {W V : List Wish} {l : Array Bool} {a : Act} {w : World}, (∀ x ∈ V, x ∈ W) → anyK P ops Q n W l a w → anyK P ops Q n V l a w
  | 0, _, _, _, _, _, _, h => h
  | n + 1, W, V, _, _, _, hs, h => ⟨h.1, fun i hi => wpOp_mono (fun a' w' h' => by
      have hb : ∀ x ∈ Wish.behind ops V i, x ∈ Wish.behind ops W i := fun x hx => List.mem_filter.2 ⟨hs x (List.mem_filter.1 hx).1, (List.mem_filter.1 hx).2⟩
      exact ⟨fun x hx => h'.1 x (hb x hx), anyK_sub n hb h'.2⟩) (h.2 i hi)⟩

theorem anyK_done {W : List Wish} {l : Array Bool} {a : Act} {w : World} (hr : rdy ops l = []) (h : Q .normal a w) : ∀ n, anyK P ops Q n W l a w
  | 0 => ⟨hr, h⟩
  | _ + 1 => ⟨fun _ => h, by rw [hr]; simp⟩

theorem anyK_true (i : Nat) : ∀ (n : Nat) {W : List Wish} {l : Array Bool} {a : Act} {w : World}, anyK P ops Q n W l a w → anyK P ops Q n ((i, fun _ => True) :: W) l a w
  | 0, _, _, _, _, h => h
  | n + 1, W, _, _, _, h => ⟨h.1, fun j hj => wpOp_mono (fun a' w' h' => by
      have hm : Met (Wish.behind ops ((i, fun _ => True) :: W) j) w' := fun x hx => by
        obtain ⟨h1, h2⟩ := List.mem_filter.1 hx
        rcases List.mem_cons.1 h1 with rfl | h1
        · trivial
        · exact h'.1 x (List.mem_filter.2 ⟨h1, h2⟩)
      refine ⟨hm, anyK_sub n (W := (i, fun _ => True) :: Wish.behind ops W j) (fun x hx => ?_) (anyK_true i n h'.2)⟩
      obtain ⟨h1, h2⟩ := List.mem_filter.1 hx
      rcases List.mem_cons.1 h1 with rfl | h1
      · exact List.mem_cons_self ..
      · exact List.mem_cons_of_mem _ (List.mem_filter.2 ⟨h1, h2⟩)) (h.2 j hj)⟩

/-- An operation taken first. -/
theorem anyK_first {i : Nat} {oi : Oper} {v : Value} {S : World → Prop} (hi : ops[i]? = some oi) (hs : Region.noSelect ops = true)
    (hQ : ∀ c a w, Q (.panic c) (a.put oi.dst v) w → Q (.panic c) a w) :
    ∀ (n : Nat) (W : List Wish) (l : Array Bool) (a : Act) (w : World), Down ops l → Region.free .any ops l i = true →
      i ∈ rdy ops l → YieldsIf P ops S oi v a → S w → Met W w →
      anyK P ops Q n ((i, S) :: W) (l.setIfInBounds i true) (a.put oi.dst v) w → anyK P ops Q (n + 1) W l a w := by
  have self : ∀ (n : Nat) (W : List Wish) (l : Array Bool) (a : Act) (w : World), YieldsIf P ops S oi v a → S w → Met W w →
      anyK P ops Q n ((i, S) :: W) (l.setIfInBounds i true) (a.put oi.dst v) w →
      wpOp P ops Q i (fun a' w' => Met (Wish.behind ops W i) w' ∧ anyK P ops Q n (Wish.behind ops W i) (l.setIfInBounds i true) a' w') a w :=
    fun n W l a w hy hS hW H => hy.wpOp hi hS ⟨hW.behind i, anyK_sub n (fun x hx => List.mem_cons_of_mem _ (List.mem_filter.1 hx).1) H⟩
  intro n
  induction n with
  | zero =>
    intro W l a w hd _ hr hy hS hW H
    refine ⟨fun h => (by rw [h] at hr; cases hr), fun j hj => ?_⟩
    by_cases hji : j = i
    · subst hji; exact self 0 W l a w hy hS hW H
    · have h1 := ready_mono hj hji
      rw [show Region.ready .any ops (l.setIfInBounds i true) = [] from H.1] at h1
      cases h1
  | succ n ih =>
    intro W l a w hd hf hr hy hS hW H
    refine ⟨fun h => (by rw [h] at hr; cases hr), fun j hj => ?_⟩
    by_cases hji : j = i
    · subst hji; exact self (n + 1) W l a w hy hS hW H
    · obtain ⟨hjun, oj, hoj, hall⟩ := mem_ready.1 hj
      have hiun := (mem_ready.1 hr).1
      have hnw : waits ops 3 i j = false := by
        cases hw : waits ops 3 i j with
        | false => rfl
        | true =>
          have := waits_ready hd hw hj
          rw [getD_two hiun] at this; cases this
      have hno : ∀ e ∈ oj.after, Region.binds .any e = true → e.on ≠ i := fun e he hb heq => by
        have := hall e he hb
        rw [heq, getD_two hiun] at this; cases this
      have h2 := wpOp_putIf hoj (Region.free_spec hi hf j oj hoj hji hjun hno) (fun cs b => Region.noSelect_spec hs i oi cs b hi) (fun cs b => Region.noSelect_spec hs j oj cs b hoj) hQ hy (H.2 j (ready_mono hj hji))
      have hb : Wish.behind ops ((i, S) :: W) j = (i, S) :: Wish.behind ops W j := by
        unfold Wish.behind
        rw [List.filter_cons_of_pos (by simp [hnw])]
      rw [hb] at h2
      have hf' : Region.free .any ops (l.setIfInBounds j true) i = true := by
        have hf0 := hf
        unfold Region.free at hf0 ⊢
        simp only [hi, List.all_eq_true, List.mem_range] at hf0 ⊢
        intro k hk
        have h3 := hf0 k hk
        by_cases hjk : j = k
        · subst hjk
          have : (l.setIfInBounds j true).getD j true = true := by
            rcases Nat.lt_or_ge j l.size with h' | h'
            · simp [h']
            · simp [h']
          simp only [this, Bool.or_true, Bool.true_or]
        · rw [getD_set_ne true hjk]; exact h3
      refine wpOp_mono (fun a' w' h3 => ?_) h2
      obtain ⟨hy', hm, hrest⟩ := h3
      have hm' : Met (Wish.behind ops W j) w' := fun x hx => hm x (List.mem_cons_of_mem _ hx)
      refine ⟨hm', ih _ _ a' w' (hd.set hj) hf' (ready_mono hr (Ne.symm hji)) hy' (hm _ (List.mem_cons_self ..)) hm' ?_⟩
      rw [Array.setIfInBounds_comm _ _ hji]
      exact hrest
end
end Go.Aw
