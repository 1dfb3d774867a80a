/-
  A region that draws its order, by a plan: whatever order is drawn, it comes out as the plan does.
-/
import Derived.Test.YtmdiokmkokjpiaaGreatCore9
set_option linter.all false
set_option linter.unusedVariables false
set_option linter.unusedSimpArgs false
set_option linter.unnecessarySimpa false
namespace Go.Aw
section
variable {P : Program} {T : Tab}

/-- Blocks that were laid ahead of the plan: the operation's number, the block. -/
abbrev Early := List (Nat × Nat)
def dstOf (ops : Array Oper) (x : Nat) : Option Tmp := (ops[x]?).bind (·.dst)

structure EarlyAct (ops : Array Oper) (A : Early) (ap ar : Act) : Prop where
  defers : ar.defers = ap.defers
  size : ar.tmps.size = ap.tmps.size
  other : ∀ s, (∀ x ∈ A, dstOf ops x.1 ≠ some s) → ar.tmps[s]? = ap.tmps[s]?
  own : ∀ x ∈ A, ∀ s, dstOf ops x.1 = some s → s < ap.tmps.size → ar.tmps[s]? = some (.pointer (some ⟨x.2, 0, none⟩))

structure EarlyL (A : Early) (l lr : Array Bool) : Prop where
  size : lr.size = l.size
  yes : ∀ (j b : Nat) (d : Bool), (j, b) ∈ A → lr.getD j d = true
  no : ∀ (j : Nat) (d : Bool), (∀ b, (j, b) ∉ A) → lr.getD j d = l.getD j d

/-- Operation 'o' has nothing to do with the early ones. -/
def Apart (ops : Array Oper) (A : Early) (o : Oper) : Prop := ∀ x ∈ A, ∃ ox, ops[x.1]? = some ox ∧ ox.apart ops o = true

theorem Apart.dst {ops : Array Oper} {A : Early} {o : Oper} (h : Apart ops A o) {x : Nat × Nat} (hx : x ∈ A) {s : Tmp} (hs : dstOf ops x.1 = some s) : s ∉ o.looksAt ops ∧ o.dst ≠ some s := by
  obtain ⟨ox, hox, hap⟩ := h x hx
  obtain ⟨h1, h2, h3⟩ := Oper.apart_spec hap
  have hd : ox.dst = some s := by simpa [dstOf, hox] using hs
  exact ⟨h1 s hd, h2 s hd⟩

theorem EarlyAct.eval {ops : Array Oper} {A : Early} {ap ar : Act} (h : EarlyAct ops A ap ar) {o : Oper} (ha : Apart ops A o) {x : Operand} (hx : x ∈ o.op.operands) : ar.eval x = ap.eval x := by
  cases x with
  | tmp t =>
    have : ar.tmps[t]? = ap.tmps[t]? := h.other t fun y hy hd => (ha.dst hy hd).1 (List.mem_append_left _ (List.mem_filterMap.2 ⟨.tmp t, by simpa using hx, rfl⟩))
    simp [Act.eval, this]
  | const v => rfl
  | global g => rfl
  | func f => rfl

theorem EarlyAct.exec {ops : Array Oper} {A : Early} {ap ar : Act} (h : EarlyAct ops A ap ar) {o : Oper} (ha : Apart ops A o) (hs : ∀ cs b, o.op ≠ .select cs b) : execOp ar.eval o = execOp ap.eval o :=
  execOp_congr o hs fun _ hx => h.eval ha hx

theorem EarlyAct.wanted {ops : Array Oper} {A : Early} {ap ar : Act} (h : EarlyAct ops A ap ar) {o : Oper} (ha : Apart ops A o) :
    Region.wanted o (yielded ops ar.tmps) = Region.wanted o (yielded ops ap.tmps) := by
  unfold Region.wanted
  cases hg : o.guard with
  | none => rfl
  | some g =>
    obtain ⟨j, want⟩ := g
    simp only
    have : yielded ops ar.tmps j = yielded ops ap.tmps j := by
      unfold yielded
      cases hd : (ops[j]?).bind (·.dst) with
      | none => rfl
      | some t =>
        have : ar.tmps[t]? = ap.tmps[t]? := h.other t fun y hy hd' => (ha.dst hy hd').1 (by
          unfold Oper.looksAt
          refine List.mem_append_right _ ?_
          simp [hg, hd])
        simp [this]
    rw [this]

theorem EarlyAct.put {ops : Array Oper} {A : Early} {ap ar : Act} (h : EarlyAct ops A ap ar) {o : Oper} (ha : Apart ops A o) (v : Value) : EarlyAct ops A (ap.put o.dst v) (ar.put o.dst v) := by
  cases hd : o.dst with
  | none => exact h
  | some d =>
    refine ⟨h.defers, by simpa [Act.put] using h.size, fun s hs => ?_, fun x hx s hs hl => ?_⟩
    · simp only [Act.put, Array.getElem?_setIfInBounds, h.size]
      split
      · rfl
      · exact h.other s hs
    · have hne : d ≠ s := fun e => (ha.dst hx hs).2 (by rw [hd, e])
      simp only [Act.put, Array.getElem?_setIfInBounds_ne hne]
      exact h.own x hx s hs (by simpa [Act.put] using hl)

/-- The plan comes to an operation that came early. -/
theorem EarlyAct.adopt {ops : Array Oper} {A : Early} {ap ar : Act} {i b : Nat} (h : EarlyAct ops ((i, b) :: A) ap ar) (hsep : ∀ x ∈ A, ∀ s, dstOf ops x.1 = some s → dstOf ops i ≠ some s) :
    EarlyAct ops A (ap.put (dstOf ops i) (.pointer (some ⟨b, 0, none⟩))) ar := by
  cases hd : dstOf ops i with
  | none =>
    refine ⟨h.defers, h.size, fun s hs => h.other s fun x hx => ?_, fun x hx s hs hl => h.own x (List.mem_cons_of_mem _ hx) s hs hl⟩
    rcases List.mem_cons.1 hx with rfl | hx
    · simp [hd]
    · exact hs x hx
  | some d =>
    refine ⟨h.defers, by simpa [Act.put] using h.size, fun s hs => ?_, fun x hx s hs hl => ?_⟩
    · simp only [Act.put, Array.getElem?_setIfInBounds]
      split
      · rename_i hds
        subst hds
        split
        · rename_i hlt; exact h.own (i, b) (List.mem_cons_self ..) d hd hlt
        · rename_i hge
          rw [Array.getElem?_eq_none]
          rw [h.size]; omega
      · rename_i hne
        refine h.other s fun x hx => ?_
        rcases List.mem_cons.1 hx with rfl | hx
        · rw [hd]; simpa using hne
        · exact hs x hx
    · have hne : d ≠ s := fun e => hsep x hx s hs (by rw [hd, e])
      exact h.own x (List.mem_cons_of_mem _ hx) s hs (by simpa [Act.put] using hl)

/-- One more comes early. -/
theorem EarlyAct.add {ops : Array Oper} {A : Early} {ap ar : Act} {i b : Nat} (h : EarlyAct ops A ap ar) (hsep : ∀ x ∈ A, ∀ s, dstOf ops x.1 = some s → dstOf ops i ≠ some s) :
    EarlyAct ops ((i, b) :: A) ap (ar.put (dstOf ops i) (.pointer (some ⟨b, 0, none⟩))) := by
  cases hd : dstOf ops i with
  | none =>
    refine ⟨h.defers, h.size, fun s hs => h.other s fun x hx => hs x (List.mem_cons_of_mem _ hx), fun x hx s hs hl => ?_⟩
    rcases List.mem_cons.1 hx with rfl | hx
    · rw [hd] at hs; cases hs
    · exact h.own x hx s hs hl
  | some d =>
    refine ⟨h.defers, by simpa [Act.put] using h.size, fun s hs => ?_, fun x hx s hs hl => ?_⟩
    · have hne : d ≠ s := fun e => hs (i, b) (List.mem_cons_self ..) (by rw [hd, e])
      simp only [Act.put, Array.getElem?_setIfInBounds_ne hne]
      exact h.other s fun x hx => hs x (List.mem_cons_of_mem _ hx)
    · rcases List.mem_cons.1 hx with rfl | hx
      · rw [hd] at hs; cases hs
        simp only [Act.put, Array.getElem?_setIfInBounds, h.size, if_true, hl]
      · have hne : d ≠ s := fun e => hsep x hx s hs (by rw [hd, e])
        simp only [Act.put, Array.getElem?_setIfInBounds_ne hne]
        exact h.own x hx s hs hl

theorem EarlyL.perm {A B : Early} {l lr : Array Bool} (h : EarlyL A l lr) (hp : ∀ x, x ∈ A ↔ x ∈ B) : EarlyL B l lr :=
  ⟨h.size, fun j b d hj => h.yes j b d ((hp _).2 hj), fun j d hj => h.no j d fun b hb => hj b ((hp _).1 hb)⟩
theorem EarlyAct.perm {ops : Array Oper} {A B : Early} {ap ar : Act} (h : EarlyAct ops A ap ar) (hp : ∀ x, x ∈ A ↔ x ∈ B) : EarlyAct ops B ap ar :=
  ⟨h.defers, h.size, fun s hs => h.other s fun x hx => hs x ((hp x).1 hx), fun x hx => h.own x ((hp x).2 hx)⟩

theorem set_true {l : Array Bool} {i j : Nat} {d : Bool} (h : l.getD j d = true) : (l.setIfInBounds i true).getD j d = true := by
  by_cases hij : i = j
  · subst hij
    simp only [Array.getD_eq_getD_getElem?, Array.getElem?_setIfInBounds, if_true] at h ⊢
    split
    · rfl
    · rename_i hn; rw [Array.getElem?_eq_none (by omega)] at h; exact h
  · rw [getD_set_ne d hij]; exact h
theorem set_self {l : Array Bool} {i : Nat} (d : Bool) (h : i < l.size) : (l.setIfInBounds i true).getD i d = true := by
  simp only [Array.getD_eq_getD_getElem?, Array.getElem?_setIfInBounds, if_true, h, Option.getD_some]

theorem EarlyL.set {A : Early} {l lr : Array Bool} (h : EarlyL A l lr) {i : Nat} (hi : i < l.size) : EarlyL A (l.setIfInBounds i true) (lr.setIfInBounds i true) := by
  refine ⟨by simp [h.size], fun j b d hj => set_true (h.yes j b d hj), fun j d hj => ?_⟩
  by_cases hij : i = j
  · subst hij; rw [set_self d hi, set_self d (by rw [h.size]; exact hi)]
  · rw [getD_set_ne d hij, getD_set_ne d hij]; exact h.no j d hj

theorem EarlyL.add {A : Early} {l lr : Array Bool} (h : EarlyL A l lr) {i : Nat} (b : Nat) (hi : i < l.size) : EarlyL ((i, b) :: A) l (lr.setIfInBounds i true) := by
  refine ⟨by simp [h.size], fun j b' d hj => ?_, fun j d hj => ?_⟩
  · rcases List.mem_cons.1 hj with e | hj
    · cases e; exact set_self d (by rw [h.size]; exact hi)
    · exact set_true (h.yes j b' d hj)
  · have hij : i ≠ j := fun e => hj b (by rw [e]; exact List.mem_cons_self ..)
    rw [getD_set_ne d hij]
    exact h.no j d fun b' hb => hj b' (List.mem_cons_of_mem _ hb)

theorem EarlyL.adopt {A : Early} {l lr : Array Bool} {i b : Nat} (h : EarlyL ((i, b) :: A) l lr) (hi : i < l.size) : EarlyL A (l.setIfInBounds i true) lr := by
  refine ⟨by simp [h.size], fun j b' d hj => h.yes j b' d (List.mem_cons_of_mem _ hj), fun j d hj => ?_⟩
  by_cases hij : i = j
  · subst hij; rw [set_self d hi]; exact h.yes i b d (List.mem_cons_self ..)
  · rw [getD_set_ne d hij]
    refine h.no j d fun b' hb => ?_
    rcases List.mem_cons.1 hb with e | hb
    · cases e; exact hij rfl
    · exact hj b' hb

/-- How many have not come up. -/
def left (N : Nat) (l : Array Bool) : Nat := ((List.range N).filter fun j => !(l.getD j true)).length

theorem filter_less {L : List Nat} (hn : L.Nodup) {p q : Nat → Bool} {i : Nat} (hi : i ∈ L) (hp : p i = true) (hq : ∀ j, q j = (p j && j != i)) : (L.filter q).length + 1 = (L.filter p).length := by
  induction L with
  | nil => cases hi
  | cons a L ih =>
    rw [List.nodup_cons] at hn
    rcases List.mem_cons.1 hi with rfl | hi
    · have hqi : q i = false := by rw [hq]; simp
      have hrest : L.filter q = L.filter p := List.filter_congr fun j hj => by
        rw [hq]
        have : j ≠ i := fun e => hn.1 (e ▸ hj)
        simp [this]
      rw [List.filter_cons_of_neg (by simp [hqi]), List.filter_cons_of_pos hp, hrest]; rfl
    · have hne : a ≠ i := fun e => hn.1 (e ▸ hi)
      have := ih hn.2 hi
      by_cases ha : p a = true
      · have hqa : q a = true := by rw [hq]; simp [ha, hne]
        rw [List.filter_cons_of_pos hqa, List.filter_cons_of_pos ha]; simp; exact this
      · have hqa : ¬ q a = true := by rw [hq]; simp [ha]
        rw [List.filter_cons_of_neg hqa, List.filter_cons_of_neg ha]; exact this

theorem left_set {N : Nat} {l : Array Bool} {i : Nat} (hi : i < N) (h : l.getD i true = false) (_hl : l.size = N) : left N (l.setIfInBounds i true) + 1 = left N l := by
  refine filter_less List.nodup_range (List.mem_range.2 hi) (by simp [h]) fun j => ?_
  by_cases hij : i = j
  · subst hij
    have : (l.setIfInBounds i true).getD i true = true := by
      simp only [Array.getD_eq_getD_getElem?, Array.getElem?_setIfInBounds, if_true]
      split <;> rfl
    simp [this]
  · rw [getD_set_ne true hij]
    have : (j != i) = true := by simpa using Ne.symm hij
    simp [this]

end
end Go.Aw
