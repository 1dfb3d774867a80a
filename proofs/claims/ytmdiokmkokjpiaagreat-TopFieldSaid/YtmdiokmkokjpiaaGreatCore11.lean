/-
  Whatever order a region draws, it comes out as its plan does.
-/
import Derived.Test.YtmdiokmkokjpiaaGreatCore10
set_option linter.all false
set_option linter.unusedVariables false
set_option linter.unusedSimpArgs false
set_option linter.unnecessarySimpa false
namespace Go.Aw
section
variable {P : Program} {T : Tab}

/-- A load that was taken first, and the cells that it read. -/
structure Ent where
  i : Nat
  s : Seen
  n : Nat
  o : Nat
  b : Nat
  c : List Value
  l : List Value
def Ent.wish (e : Ent) : Wish := (e.i, CellsAt e.b e.o e.l)

structure LogOk (T : Tab) (μ : List Nat) (ld : List Nat) (L : List Seen) (G : List Ent) : Prop where
  place : ∀ e ∈ G, μ[e.n]? = some e.b
  cells : ∀ e ∈ G, VRs μ e.c e.l
  seen : ∀ e ∈ G, e.s ∈ L
  ld : ∀ e ∈ G, e.i ∈ ld
  sas : ∀ e ∈ G, SeenAs T e.s e.n e.o e.c
  si : ∀ e ∈ G, e.s.i = e.i

structure EarlyOk (T : Tab) (ops : Array Oper) (A : Early) (l : Array Bool) (μ : List Nat) (w0 w : World) : Prop where
  al : ∀ x ∈ A, x.1 ∈ allocsOf ops ∧ l.getD x.1 true = false
  zero : ∀ x ∈ A, ∃ o e i, ops[x.1]? = some o ∧ o.op = .alloc e ∧ T[e]? = some (some i) ∧ w.heap[x.2]? = some (.cells i.zero.toArray e (0, 0))
  new : ∀ x ∈ A, x.2 ∉ μ ∧ w0.heap.size ≤ x.2
  one : ∀ x ∈ A, ∀ y ∈ A, x.1 = y.1 → x = y
  two : ∀ x ∈ A, ∀ y ∈ A, x.2 = y.2 → x = y

theorem mem_allocs {ops : Array Oper} {x : Nat} : x ∈ allocsOf ops ↔ x < ops.size ∧ ∃ o, ops[x]? = some o ∧ isAlloc o.op = true := by
  unfold allocsOf
  rw [List.mem_filter, List.mem_range]
  cases h : ops[x]? with
  | none => simp
  | some o => simp

theorem allocs_spec {ops : Array Oper} (h : allocsOk T ops = true) {x : Nat} (hx : x ∈ allocsOf ops) :
    ∃ o e i d, ops[x]? = some o ∧ o.op = .alloc e ∧ T[e]? = some (some i) ∧ o.guard = none ∧ o.dst = some d ∧ ∀ y ∈ allocsOf ops, y ≠ x → dstOf ops y ≠ some d := by
  have h1 := (List.all_eq_true.1 h) x hx
  cases ho : ops[x]? with
  | none => simp [ho] at h1
  | some o =>
    simp only [ho, Bool.and_eq_true, Option.isNone_iff_eq_none, List.all_eq_true, Bool.or_eq_true, beq_iff_eq] at h1
    obtain ⟨⟨⟨h2, h3⟩, h4⟩, h5⟩ := h1
    obtain ⟨d, hd⟩ := Option.isSome_iff_exists.1 h3
    cases hop : o.op with
    | alloc e =>
      simp only [hop] at h4
      split at h4
      · rename_i i hi
        refine ⟨o, e, i, d, rfl, hop, hi, h2, hd, fun y hy hne => ?_⟩
        rcases h5 y hy with e0 | h6
        · exact absurd e0 hne
        · unfold dstOf
          cases hy' : ops[y]? with
          | none => simp
          | some o' =>
            simp only [hy', hd, bne_iff_ne] at h6
            simpa using h6
      · cases h4
    | _ => simp [hop] at h4

theorem keep1_sound {H : List Blk} {s : Seen} {k : Unit → Prop} (h : keep1 T H s k) : k () ∧ ∀ (n o : Nat) (c : List Value), SeenAs T s n o c → ∀ (μ : List Nat) (w : World) (b : Nat), Rel μ H w → μ[n]? = some b → ∃ l', VRs μ c l' ∧ CellsAt b o l' w := by
  unfold keep1 at h
  split at h
  · rename_i b o n m heq
    obtain ⟨⟨l, ⟨c0, e0, hb, hc⟩, hv⟩, hk⟩ := h
    refine ⟨hk, fun n' o' c hs μ w cb hr hμ => ?_⟩
    rcases hs with ⟨len, cap, ha, hv'⟩ | ⟨ha, _⟩
    · rw [heq] at ha
      cases ha
      rw [hv'] at hv
      have : c = l.map fun n => Value.int .u8 n := by simpa using hv.symm
      subst this
      obtain ⟨c', hw, hcv⟩ := hr.blk _ cb c0 e0 hb hμ
      exact ⟨_, ints_flat _ _, fun j v hj => by rw [cell_of_row w cb _ _ e0 _ hw]; simpa using ints_of hcv hc j v hj⟩
    · rw [heq] at ha; cases ha
  · obtain ⟨n, o, v, ha, ⟨rfl, hk⟩, hl⟩ := load_sound h
    refine ⟨hk, fun n' o' c hs μ w cb hr hμ => ?_⟩
    rcases hs with ⟨len, cap, ha', _⟩ | ⟨ha', rfl⟩
    · rw [ha'] at ha; cases ha
    · rw [ha] at ha'; cases ha'
      exact hl.cells μ w cb hr hμ

theorem keep_sound {H : List Blk} {ks : List Nat} : ∀ {L : List Seen} {k : Unit → Prop}, keepF T H ks L k → k () ∧ ∀ s ∈ L, ks.any (Nat.beq s.i) = true → ∀ (n o : Nat) (c : List Value), SeenAs T s n o c → ∀ (μ : List Nat) (w : World) (b : Nat), Rel μ H w → μ[n]? = some b → ∃ l', VRs μ c l' ∧ CellsAt b o l' w
  | [], k, h => ⟨h, by simp⟩
  | s :: L, k, h => by
    unfold keepF at h
    cases hk : ks.any (Nat.beq s.i) with
    | true =>
      simp only [hk] at h
      obtain ⟨h, hl⟩ := keep1_sound h
      obtain ⟨h1, h2⟩ := keep_sound h
      refine ⟨h1, fun s' hs' hk' => ?_⟩
      rcases List.mem_cons.1 hs' with rfl | hs'
      · exact hl
      · exact h2 s' hs' hk'
    | false =>
      simp only [hk] at h
      obtain ⟨h1, h2⟩ := keep_sound h
      refine ⟨h1, fun s' hs' hk' => ?_⟩
      rcases List.mem_cons.1 hs' with rfl | hs'
      · rw [hk] at hk'; cases hk'
      · exact h2 s' hs' hk'

/-- A block that is there already, with just these cells, is given a name. -/
theorem Rel.adopt {μ : List Nat} {H : List Blk} {w : World} (h : Rel μ H w) {b : Nat} {c c' : List Value} {e : TypeId} (hw : w.heap[b]? = some (.cells c'.toArray e (0, 0))) (hn : b ∉ μ) (hc : VRs μ c c') : Rel (μ ++ [b]) (H ++ [.cells c e]) w := by
  have hmono : ∀ (i x : Nat), μ[i]? = some x → (μ ++ [b])[i]? = some x := fun i x hi => by
    rw [List.getElem?_append_left (List.getElem?_eq_some_iff.1 hi).1]; exact hi
  have hlast : (μ ++ [b])[μ.length]? = some b := by simp
  refine ⟨by simp [h.len], ?_, ?_, ?_, ?_⟩
  · rw [List.nodup_append]
    refine ⟨h.nd, by simp, ?_⟩
    intro x hx y hy hxy
    simp at hy
    subst hy; subst hxy
    exact hn hx
  · intro x hx
    rcases List.mem_append.1 hx with hx | hx
    · exact h.lt x hx
    · simp at hx; subst hx; exact (Array.getElem?_eq_some_iff.1 hw).1
  · intro i x c1 e1 hH hμ
    by_cases hlt : i < H.length
    · rw [List.getElem?_append_left hlt] at hH
      rw [List.getElem?_append_left (by rw [← h.len]; exact hlt)] at hμ
      obtain ⟨c2, h2, hv⟩ := h.blk i x c1 e1 hH hμ
      exact ⟨c2, h2, hv.mono hmono⟩
    · have hi : i = H.length := by
        have := (List.getElem?_eq_some_iff.1 hH).1; simp at this; omega
      subst hi
      simp at hH
      rw [h.len, hlast] at hμ
      cases hμ
      obtain ⟨rfl, rfl⟩ := hH
      exact ⟨c', hw, hc.mono hmono⟩
  · intro i x f hH hμ o v hf
    by_cases hlt : i < H.length
    · rw [List.getElem?_append_left hlt] at hH
      rw [List.getElem?_append_left (by rw [← h.len]; exact hlt)] at hμ
      obtain ⟨v', h2, hv⟩ := h.rob i x f hH hμ o v hf
      exact ⟨v', h2, hv.mono hmono⟩
    · have hi : i = H.length := by
        have := (List.getElem?_eq_some_iff.1 hH).1; simp at this; omega
      subst hi
      simp at hH

theorem Ext.adopt {μ0 μ : List Nat} {H0 H : List Blk} {w0 w : World} (h : Ext μ0 H0 w0 μ H w) (hl0 : H0.length = μ0.length) (hl : H.length = μ.length) {b : Nat} {c : List Value} {e : TypeId} (hb : w0.heap.size ≤ b) : Ext μ0 H0 w0 (μ ++ [b]) (H ++ [.cells c e]) w := by
  obtain ⟨ext, rfl, hext⟩ := h.pre
  refine ⟨⟨ext ++ [b], by simp, fun x hx => ?_⟩, h.size, h.os, h.tape, h.output, h.same, fun i c1 e1 hi hc => ?_⟩
  · rcases List.mem_append.1 hx with hx | hx
    · exact hext x hx
    · simp at hx; omega
  · rw [List.getElem?_append_left (by simp at hl; omega)] at hc
    exact h.own i c1 e1 hi hc

/-- An untracked block is as it was. -/
theorem Ext.far {μ μ' : List Nat} {H H' : List Blk} {w w' : World} (h : Ext μ H w μ' H' w') {b : Nat} (hb : b < w.heap.size) (hn : b ∉ μ) : w'.heap[b]? = w.heap[b]? ∧ b ∉ μ' := by
  refine ⟨h.same b hb ?_, ?_⟩
  · rintro ⟨i, c, e, hi, _⟩; exact hn (List.mem_of_getElem? hi)
  · obtain ⟨ext, rfl, hext⟩ := h.pre
    intro hm
    rcases List.mem_append.1 hm with hm | hm
    · exact hn hm
    · have := hext b hm; omega

/-- A world one block larger. -/
theorem Rel.bigger {μ : List Nat} {H : List Blk} {w : World} (h : Rel μ H w) (o : Obj) : Rel μ H (w.alloc o) ∧ Ext μ H w μ H (w.alloc o) := by
  have hold : ∀ b, b < w.heap.size → (w.alloc o).heap[b]? = w.heap[b]? := fun b hb => heap_alloc_old w o b hb
  refine ⟨⟨h.len, h.nd, fun b hb => by have := h.lt b hb; simp; omega, fun i b c e hH hμ => ?_, fun i b f hH hμ off v hf => ?_⟩, ⟨⟨[], by simp, by simp⟩, by simp, rfl, rfl, rfl, fun b hb _ => hold b hb, fun i c e _ hc => ⟨c, e, hc⟩⟩⟩
  · obtain ⟨c', h2, hv⟩ := h.blk i b c e hH hμ
    exact ⟨c', by rw [hold b (h.lt b (List.mem_of_getElem? hμ))]; exact h2, hv⟩
  · obtain ⟨v', h2, hv⟩ := h.rob i b f hH hμ off v hf
    exact ⟨v', by rw [World.cell?_alloc_lt w _ _ (h.lt b (List.mem_of_getElem? hμ))]; exact h2, hv⟩

theorem CellsAt.alloc {b o : Nat} {l : List Value} {w : World} (h : CellsAt b o l w) (hb : b < w.heap.size) (x : Obj) : CellsAt b o l (w.alloc x) := fun j v hj => by
  rw [World.cell?_alloc_lt w _ _ hb]; exact h j v hj

structure St (P : Program) (T : Tab) (ops : Array Oper) (μ0 : List Nat) (H0 : List Blk) (w0 : World) (l : Array Bool) (ld : List Nat) (μ : List Nat) (ts : List Value) (H : List Blk) (ap : Act) (L : List Seen) (G : List Ent) (A : Early) (ar : Act) (lr : Array Bool) (w : World) : Prop where
  hl0 : H0.length = μ0.length
  vrs : SRs μ ts ap.tmps.toList
  rel : Rel μ H w
  ext : Ext μ0 H0 w0 μ H w
  defers : ap.defers = []
  act : EarlyAct ops A ap ar
  lst : EarlyL A l lr
  size : l.size = ops.size
  down : Down ops lr
  early : EarlyOk T ops A l μ w0 w
  log : LogOk T μ ld L G
  met : Met (G.map Ent.wish) w

variable {ops : Array Oper} {μ0 : List Nat} {H0 : List Blk} {w0 : World} {K : List Value → List Blk → Prop}

/-- An allocation comes early. -/
theorem St.step_alloc (hT : TabOk P T) (hal : allocsOk T ops = true) {l : Array Bool} {ld : List Nat} {μ : List Nat} {ts : List Value} {H : List Blk} {ap : Act} {L : List Seen} {G : List Ent} {A : Early} {ar : Act} {lr : Array Bool} {w : World}
    (s : St P T ops μ0 H0 w0 l ld μ ts H ap L G A ar lr w) {j : Nat} (hj : j ∈ rdy ops lr) (hja : j ∈ allocsOf ops) {n : Nat} {Q : Exit → Act → World → Prop}
    (ih : ∀ (G' : List Ent) (A' : Early) (ar' : Act) (w' : World), St P T ops μ0 H0 w0 l ld μ ts H ap L G' A' ar' (lr.setIfInBounds j true) w' → anyK P ops Q n (G'.map Ent.wish) (lr.setIfInBounds j true) ar' w') :
    wpOp P ops Q j (fun a' w' => Met (Wish.behind ops (G.map Ent.wish) j) w' ∧ anyK P ops Q n (Wish.behind ops (G.map Ent.wish) j) (lr.setIfInBounds j true) a' w') ar w := by
  obtain ⟨o, e, i, d, ho, hop, hi, hg, hd, hsep⟩ := allocs_spec hal hja
  have hjl : j < ops.size := (mem_allocs.1 hja).1
  have hun : lr.getD j true = false := (mem_ready.1 hj).1
  have hjA : ∀ b, (j, b) ∉ A := fun b hb => by rw [s.lst.yes j b true hb] at hun; cases hun
  have hjl0 : l.getD j true = false := by rw [← s.lst.no j true hjA]; exact hun
  have hdst : dstOf ops j = some d := by simp [dstOf, ho, hd]
  have hsepA : ∀ x ∈ A, ∀ t, dstOf ops x.1 = some t → dstOf ops j ≠ some t := fun x hx t ht e0 => by
    have hxj : x.1 ≠ j := fun e1 => hjA x.2 (by rw [← e1]; exact hx)
    refine hsep x.1 (s.early.al x hx).1 hxj ?_
    rw [ht, ← e0, hdst]
  have hrun : (execOp ar.eval o).run P w = .ok (.value (.pointer (some ⟨w.heap.size, 0, none⟩))) (w.alloc (.cells i.zero.toArray e)) := by
    simp [execOp, hop, alloc_run hT hi w]
  have hmap : Wish.behind ops (G.map Ent.wish) j = (G.filter fun e => !(waits ops 3 e.i j)).map Ent.wish := by
    unfold Wish.behind
    rw [List.filter_map]; rfl
  unfold wpOp
  simp only [ho]
  rw [if_pos (by simp [Region.wanted, hg])]
  left
  refine wp_value (ar := ar) rfl hrun ?_
  obtain ⟨hr', hx'⟩ := s.rel.bigger (.cells i.zero.toArray e)
  have hmet : Met (G.map Ent.wish) (w.alloc (.cells i.zero.toArray e)) := fun x hx => by
    obtain ⟨g, hg, rfl⟩ := List.mem_map.1 hx
    exact (s.met _ hx).alloc (s.rel.lt _ (List.mem_of_getElem? (s.log.place g hg))) _
  rw [hmap]
  refine ⟨fun x hx => hmet x ?_, ?_⟩
  · obtain ⟨g, hg, rfl⟩ := List.mem_map.1 hx
    exact List.mem_map.2 ⟨g, (List.mem_filter.1 hg).1, rfl⟩
  refine ih _ ((j, w.heap.size) :: A) _ _ ?_
  have hold : ∀ b, b < w.heap.size → (w.alloc (.cells i.zero.toArray e)).heap[b]? = w.heap[b]? := fun b hb => heap_alloc_old w _ b hb
  have hlt : ∀ x ∈ A, x.2 < w.heap.size := fun x hx => by
    obtain ⟨_, _, _, _, _, _, hb⟩ := s.early.zero x hx
    exact (Array.getElem?_eq_some_iff.1 hb).1
  refine ⟨s.hl0, s.vrs, hr', s.ext.trans s.hl0 s.rel.len hx', s.defers, ?_, s.lst.add _ (by rw [s.size]; exact hjl), s.size, s.down.set hj, ?_, ⟨fun e he => s.log.place e (List.mem_filter.1 he).1, fun e he => s.log.cells e (List.mem_filter.1 he).1, fun e he => s.log.seen e (List.mem_filter.1 he).1, fun e he => s.log.ld e (List.mem_filter.1 he).1, fun e he => s.log.sas e (List.mem_filter.1 he).1, fun e he => s.log.si e (List.mem_filter.1 he).1⟩, ?_⟩
  · have := s.act.add (i := j) (b := w.heap.size) hsepA
    rw [hd]
    rw [hdst] at this
    exact this
  · refine ⟨fun x hx => ?_, fun x hx => ?_, fun x hx => ?_, fun x hx y hy h => ?_, fun x hx y hy h => ?_⟩
    · rcases List.mem_cons.1 hx with rfl | hx
      · exact ⟨hja, hjl0⟩
      · exact s.early.al x hx
    · rcases List.mem_cons.1 hx with rfl | hx
      · exact ⟨o, e, i, ho, hop, hi, heap_alloc_new w _⟩
      · obtain ⟨o', e', i', h1, h2, h3, h4⟩ := s.early.zero x hx
        exact ⟨o', e', i', h1, h2, h3, by rw [hold _ (hlt x hx)]; exact h4⟩
    · rcases List.mem_cons.1 hx with rfl | hx
      · exact ⟨fun hm => Nat.lt_irrefl _ (s.rel.lt _ hm), s.ext.size⟩
      · exact s.early.new x hx
    · rcases List.mem_cons.1 hx with rfl | hx <;> rcases List.mem_cons.1 hy with rfl | hy
      · rfl
      · exact absurd (show (j, y.2) ∈ A by rw [show j = y.1 from h]; exact hy) (hjA y.2)
      · exact absurd (show (j, x.2) ∈ A by rw [show j = x.1 from h.symm]; exact hx) (hjA x.2)
      · exact s.early.one x hx y hy h
    · rcases List.mem_cons.1 hx with rfl | hx <;> rcases List.mem_cons.1 hy with rfl | hy
      · rfl
      · have := hlt y hy; simp at h; omega
      · have := hlt x hx; simp at h; omega
      · exact s.early.two x hx y hy h
  · intro x hx
    obtain ⟨g, hg, rfl⟩ := List.mem_map.1 hx
    exact hmet _ (List.mem_map.2 ⟨g, (List.mem_filter.1 hg).1, rfl⟩)

theorem plan_sound (hT : TabOk P T) (hsel : Region.noSelect ops = true) (hal : allocsOk T ops = true) (hok : ∀ o ∈ ops.toList, o.op.operands.toList.all opOk = true) :
    ∀ (plan : Plan) (l : Array Bool) (ld : List Nat) (μ : List Nat) (ts : List Value) (H : List Blk) (ap : Act) (L : List Seen),
      chk ops (allocsOf ops) plan l ld = true → planF P T ops.toList plan L ts H K →
      ∀ (n : Nat) (G : List Ent) (A : Early) (ar : Act) (lr : Array Bool) (w : World), left ops.size lr ≤ n → St P T ops μ0 H0 w0 l ld μ ts H ap L G A ar lr w →
        anyK P ops (AtEnd (Out μ0 H0 w0 K)) n (G.map Ent.wish) lr ar w := by
  intro plan
  induction plan with
  | nil =>
    intro l ld μ ts H ap L hc h n G A ar lr w _ s
    have hall : ∀ j, j < ops.size → l.getD j true = true := fun j hj => (List.all_eq_true.1 hc) j (List.mem_range.2 hj)
    have hA : A = [] := by
      cases A with
      | nil => rfl
      | cons x A =>
        obtain ⟨h1, h2⟩ := s.early.al x (List.mem_cons_self ..)
        rw [hall x.1 (mem_allocs.1 h1).1] at h2; cases h2
    subst hA
    have hr : rdy ops lr = [] := by
      cases hr : rdy ops lr with
      | nil => rfl
      | cons j js =>
        have hj : j ∈ rdy ops lr := by rw [hr]; exact List.mem_cons_self ..
        obtain ⟨h1, o, ho, _⟩ := mem_ready.1 hj
        rw [s.lst.no j true (by simp), hall j (Array.getElem?_eq_some_iff.1 ho).1] at h1
        cases h1
    refine anyK_done hr ?_ n
    have htm : ar.tmps = ap.tmps := by
      apply Array.ext_getElem?
      intro i
      exact s.act.other i (by simp)
    exact ⟨μ, ts, H, by rw [htm]; exact s.vrs, s.rel, s.ext, s.act.defers.trans s.defers, h⟩
  | cons p rest ih =>
    obtain ⟨i, ks⟩ := p
    intro l ld μ ts H ap L hc h
    replace h := getF_iff h
    obtain ⟨o, ho', h⟩ := h
    have ho : ops[i]? = some o := by simpa using ho'
    have hoo : o.op.operands.toList.all opOk = true := hok o (List.mem_of_getElem? ho')
    have hil : i < ops.size := (Array.getElem?_eq_some_iff.1 ho).1
    simp only [chk, ho, Bool.and_eq_true] at hc
    obtain ⟨⟨⟨hrd, hap⟩, hrest⟩, hkind⟩ := hc
    have hrd : i ∈ rdy ops l := by simpa using hrd
    have hunl : l.getD i true = false := (mem_ready.1 hrd).1
    have hse : ∀ cs b, o.op ≠ .select cs b := fun cs b => Region.noSelect_spec hsel i o cs b ho
    have hapart : ∀ (A : Early) (w : World), EarlyOk T ops A l μ w0 w → (∀ b, (i, b) ∉ A) → Apart ops A o := fun A w he hn x hx => by
      obtain ⟨h1, h2⟩ := he.al x hx
      have h3 := (List.all_eq_true.1 hap) x.1 h1
      simp only [Bool.or_eq_true, beq_iff_eq, h2, Bool.false_eq_true, or_false] at h3
      rcases h3 with e | h3
      · exact absurd (show (i, x.2) ∈ A by rw [← e]; exact hx) (hn x.2)
      · cases hox : ops[x.1]? with
        | none => simp [hox] at h3
        | some ox => exact ⟨ox, rfl, by simpa [hox] using h3⟩
    have hready : ∀ {A : Early} {lr : Array Bool}, EarlyL A l lr → (∀ b, (i, b) ∉ A) → i ∈ rdy ops lr := fun {A lr} hl hn => by
      obtain ⟨h1, o', ho1, hall⟩ := mem_ready.1 hrd
      refine mem_ready.2 ⟨by rw [hl.no i true hn]; exact h1, o', ho1, fun e he hb => ?_⟩
      have := hall e he hb
      by_cases hA : ∃ b, (e.on, b) ∈ A
      · obtain ⟨b, hb⟩ := hA; exact hl.yes _ b false hb
      · rw [hl.no e.on false fun b hb => hA ⟨b, hb⟩]; exact this
    -- somebody can come up whenever the fuel is at its end
    have hzero : ∀ {A : Early} {lr : Array Bool}, EarlyL A l lr → (∀ b, (i, b) ∉ A) → lr.size = ops.size → ¬ left ops.size lr ≤ 0 := fun {A lr} hl hn hsz hle => by
      have hu : lr.getD i true = false := by rw [hl.no i true hn]; exact hunl
      have := left_set hil hu hsz
      omega
    cases hq : quietOp o.op with
    | true =>
      simp only [hq] at hkind h hrest
      have hna : ∀ (A : Early) (w : World), EarlyOk T ops A l μ w0 w → ∀ b, (i, b) ∉ A := fun A w he b hb => by
        obtain ⟨_, o1, ho1, ha1⟩ := mem_allocs.1 (he.al _ hb).1
        rw [ho] at ho1; cases ho1
        cases hop : o.op <;> simp [hop, isAlloc, quietOp] at ha1 hq
      intro n G A ar lr w hn s
      have hnA := hna A w s.early
      have hapA := hapart A w s.early hnA
      cases n with
      | zero => exact absurd hn (hzero s.lst hnA (by rw [s.lst.size, s.size]))
      | succ n =>
        have hir := hready s.lst hnA
        have hfree : Region.free .any ops lr i = true := by
          have hf0 := hkind
          unfold Region.free at hf0 ⊢
          simp only [ho, List.all_eq_true, List.mem_range, Bool.or_eq_true] at hf0 ⊢
          intro k hk
          rcases hf0 k hk with (h1 | h1) | h1
          · exact .inl (.inl h1)
          · refine .inl (.inr ?_)
            by_cases hA : ∃ b, (k, b) ∈ A
            · obtain ⟨b, hb⟩ := hA; exact s.lst.yes _ b true hb
            · rw [s.lst.no k true fun b hb => hA ⟨b, hb⟩]; exact h1
          · exact .inr h1
        have hleft : left ops.size (lr.setIfInBounds i true) ≤ n := by
          have := left_set hil (mem_ready.1 hir).1 (by rw [s.lst.size, s.size])
          omega
        have hearly' : EarlyOk T ops A (l.setIfInBounds i true) μ w0 w := ⟨fun x hx => ⟨(s.early.al x hx).1, by
            have hne : i ≠ x.1 := fun e => hnA x.2 (by rw [e]; exact hx)
            rw [getD_set_ne true hne]; exact (s.early.al x hx).2⟩, s.early.zero, s.early.new, s.early.one, s.early.two⟩
        have hwar := s.act.wanted hapA
        have hexec := s.act.exec hapA hse
        have hdefp : ∀ v, (ap.put o.dst v).defers = [] := fun v => by unfold Act.put; cases o.dst <;> exact s.defers
        rcases want_sound s.vrs h with ⟨hw, h⟩ | ⟨hw, h⟩
        · obtain ⟨v, cv, hvr, hcase⟩ := quietP_here hT o h hoo s.vrs s.rel
          rcases hcase with ⟨h, hrun⟩ | ⟨sn, nm, off, b, c, cl, hld, hsi, h, has, hμ, hcl, hcells, hrun⟩
          · obtain ⟨ts', h, hv'⟩ := put_sound s.vrs hvr h
            refine anyK_first (S := fun _ => True) (v := cv) ho hsel (fun c a w hq => hq) n _ lr ar w s.down hfree hir (.inl ⟨by rw [hwar]; exact hw, fun w' _ => by rw [hexec]; exact hrun w'⟩) trivial s.met ?_
            refine anyK_true i n (ih _ _ μ ts' H _ L hrest h n G A _ _ w hleft ⟨s.hl0, hv', s.rel, s.ext, hdefp cv, s.act.put hapA cv, s.lst.set (by rw [s.size]; exact hil), by simp [s.size], s.down.set hir, hearly', ?_, s.met⟩)
            refine ⟨s.log.place, s.log.cells, s.log.seen, fun e he => ?_, s.log.sas, s.log.si⟩
            split
            · exact List.mem_cons_of_mem _ (s.log.ld e he)
            · simp only [Bool.true_or, if_true]; exact s.log.ld e he
          · obtain ⟨ts', h, hv'⟩ := put_sound s.vrs hvr h
            refine anyK_first (S := CellsAt b off cl) (v := cv) ho hsel (fun c a w hq => hq) n _ lr ar w s.down hfree hir (.inl ⟨by rw [hwar]; exact hw, fun w' hw' => by rw [hexec]; exact hrun w' hw'⟩) hcells s.met ?_
            refine ih _ _ μ ts' H _ _ hrest h n (⟨i, sn, nm, off, b, c, cl⟩ :: G) A _ _ w hleft ⟨s.hl0, hv', s.rel, s.ext, hdefp cv, s.act.put hapA cv, s.lst.set (by rw [s.size]; exact hil), by simp [s.size], s.down.set hir, hearly', ?_, ?_⟩
            · simp only [hld, if_true]
              refine ⟨fun e he => ?_, fun e he => ?_, fun e he => ?_, fun e he => ?_, fun e he => ?_, fun e he => ?_⟩
              · rcases List.mem_cons.1 he with rfl | he
                · exact hμ
                · exact s.log.place e he
              · rcases List.mem_cons.1 he with rfl | he
                · exact hcl
                · exact s.log.cells e he
              · rcases List.mem_cons.1 he with rfl | he
                · exact List.mem_cons_self ..
                · exact List.mem_cons_of_mem _ (s.log.seen e he)
              · rcases List.mem_cons.1 he with rfl | he
                · exact List.mem_cons_self ..
                · exact List.mem_cons_of_mem _ (s.log.ld e he)
              · rcases List.mem_cons.1 he with rfl | he
                · exact has
                · exact s.log.sas e he
              · rcases List.mem_cons.1 he with rfl | he
                · exact hsi
                · exact s.log.si e he
            · intro x hx
              rcases List.mem_cons.1 hx with rfl | hx
              · exact hcells
              · exact s.met x hx
        · obtain ⟨ts', h, hv'⟩ := put_sound s.vrs VR.undef h
          refine anyK_first (S := fun _ => True) (v := undef) ho hsel (fun c a w hq => hq) n _ lr ar w s.down hfree hir (.inr ⟨by rw [hwar]; exact hw, rfl⟩) trivial s.met ?_
          refine anyK_true i n (ih _ _ μ ts' H _ L hrest h n G A _ _ w hleft ⟨s.hl0, hv', s.rel, s.ext, hdefp undef, s.act.put hapA undef, s.lst.set (by rw [s.size]; exact hil), by simp [s.size], s.down.set hir, hearly', ?_, s.met⟩)
          refine ⟨s.log.place, s.log.cells, s.log.seen, fun e he => ?_, s.log.sas, s.log.si⟩
          split
          · exact List.mem_cons_of_mem _ (s.log.ld e he)
          · simp only [Bool.true_or, if_true]; exact s.log.ld e he
    | false =>
      simp only [hq] at hkind h hrest
      have hnl : isLoad o.op = false := by cases hop : o.op <;> simp [hop, isLoad, quietOp] at hq ⊢
      simp only [hnl, Bool.false_eq_true, if_false, Bool.false_or] at hrest
      cases hia : isAlloc o.op with
      | true =>
        simp only [hia, if_true] at hkind hrest
        simp only [Bool.and_eq_true] at hkind
        obtain ⟨⟨hgn, hds⟩, hwait⟩ := hkind
        have hial : i ∈ allocsOf ops := mem_allocs.2 ⟨hil, o, ho, hia⟩
        obtain ⟨o', e, ti, d, ho1, hop, hti, hg, hd, hsep⟩ := allocs_spec hal hial
        rw [ho] at ho1; cases ho1
        have hdst : dstOf ops i = some d := by simp [dstOf, ho, hd]
        -- the abstract step
        have habs : ∃ ts', planF P T ops.toList rest L ts' (H ++ [.cells ti.zero e]) K ∧ ∀ (μ' : List Nat) (b : Nat) (a : Act), SRs μ' ts a.tmps.toList → μ'[H.length]? = some b → SRs μ' ts' (a.put o.dst (.pointer (some ⟨b, 0, none⟩))).tmps.toList := by
          unfold wantF at h
          rw [hg] at h
          rw [hop] at h
          replace h := tinfF_iff h
          obtain ⟨ti', hti', h⟩ := h
          rw [hti] at hti'; cases hti'
          have h := newF_nums h
          have h := (keep_sound h).1
          cases hdd : o.dst with
          | none => rw [hdd] at hd; cases hd
          | some d' =>
            rw [hdd] at h
            refine ⟨_, setF_iff h, fun μ' b a hv hb => ?_⟩
            simpa [Act.put] using hv.set d' (.ptr _ _ _ hb)
        obtain ⟨ts', habs, hvput⟩ := habs
        have adopt : ∀ (n : Nat) (G : List Ent) (A : Early) (ar : Act) (lr : Array Bool) (w : World) (b : Nat), left ops.size lr ≤ n → St P T ops μ0 H0 w0 l ld μ ts H ap L G A ar lr w → (i, b) ∈ A →
            anyK P ops (AtEnd (Out μ0 H0 w0 K)) n (G.map Ent.wish) lr ar w := fun n G A ar lr w b hn s hA => by
          have hperm : ∀ x, x ∈ A ↔ x ∈ (i, b) :: A.filter (fun x => x.1 != i) := fun x => by
            constructor
            · intro hx
              by_cases hxi : x.1 = i
              · rw [s.early.one x hx (i, b) hA hxi]; exact List.mem_cons_self ..
              · exact List.mem_cons_of_mem _ (List.mem_filter.2 ⟨hx, by simpa using hxi⟩)
            · intro hx
              rcases List.mem_cons.1 hx with rfl | hx
              · exact hA
              · exact (List.mem_filter.1 hx).1
          have hin : ∀ {x}, x ∈ A.filter (fun x => x.1 != i) → x ∈ A ∧ x.1 ≠ i := fun {x} hx => ⟨(List.mem_filter.1 hx).1, by simpa using (List.mem_filter.1 hx).2⟩
          obtain ⟨o1, e1, ti1, h1, h2, h3, hz⟩ := s.early.zero _ hA
          rw [ho] at h1; cases h1
          rw [hop] at h2; cases h2
          rw [hti] at h3; cases h3
          obtain ⟨hnb, hge⟩ := s.early.new _ hA
          have hrel := s.rel.adopt hz hnb (hT.zero e ti hti μ)
          have hlast : (μ ++ [b])[H.length]? = some b := by rw [s.rel.len]; simp
          have hsub : ∀ (k x : Nat), μ[k]? = some x → (μ ++ [b])[k]? = some x := fun k x hk => by
            rw [List.getElem?_append_left (List.getElem?_eq_some_iff.1 hk).1]; exact hk
          have hv' := hvput (μ ++ [b]) b ap (s.vrs.mono hsub) hlast
          have hact := (s.act.perm hperm).adopt (fun x hx t ht e0 => hsep x.1 (s.early.al x (hin hx).1).1 (hin hx).2 (by rw [ht, ← e0, hdst]))
          rw [hdst, ← hd] at hact
          refine ih _ _ (μ ++ [b]) ts' _ _ L hrest habs n G (A.filter fun x => x.1 != i) ar lr w hn ⟨s.hl0, hv', hrel, s.ext.adopt s.hl0 s.rel.len hge, ?_, hact, (s.lst.perm hperm).adopt (by rw [s.size]; exact hil), by simp [s.size], s.down, ?_, ⟨fun e he => hsub _ _ (s.log.place e he), fun e he => (s.log.cells e he).mono hsub, s.log.seen, s.log.ld, s.log.sas, s.log.si⟩, s.met⟩
          · unfold Act.put; cases o.dst <;> exact s.defers
          · refine ⟨fun x hx => ⟨(s.early.al x (hin hx).1).1, ?_⟩, fun x hx => s.early.zero x (hin hx).1, fun x hx => ⟨?_, (s.early.new x (hin hx).1).2⟩, fun x hx y hy => s.early.one x (hin hx).1 y (hin hy).1, fun x hx y hy => s.early.two x (hin hx).1 y (hin hy).1⟩
            · rw [getD_set_ne true (Ne.symm (hin hx).2)]; exact (s.early.al x (hin hx).1).2
            · intro hm
              rcases List.mem_append.1 hm with hm | hm
              · exact (s.early.new x (hin hx).1).1 hm
              · simp at hm
                have := s.early.two x (hin hx).1 (i, b) hA hm
                exact (hin hx).2 (by rw [this])
        intro n
        induction n with
        | zero =>
          intro G A ar lr w hn s
          by_cases hA : ∃ b, (i, b) ∈ A
          · obtain ⟨b, hb⟩ := hA; exact adopt 0 G A ar lr w b hn s hb
          · exact absurd hn (hzero s.lst (fun b hb => hA ⟨b, hb⟩) (by rw [s.lst.size, s.size]))
        | succ n ihn =>
          intro G A ar lr w hn s
          by_cases hA : ∃ b, (i, b) ∈ A
          · obtain ⟨b, hb⟩ := hA; exact adopt (n + 1) G A ar lr w b hn s hb
          · have hnA : ∀ b, (i, b) ∉ A := fun b hb => hA ⟨b, hb⟩
            have hir := hready s.lst hnA
            refine ⟨fun h0 => (by rw [h0] at hir; cases hir), fun j hj => ?_⟩
            obtain ⟨hju, oj, hoj, hjall⟩ := mem_ready.1 hj
            have hjl : j < ops.size := (Array.getElem?_eq_some_iff.1 hoj).1
            have hjA : ∀ b, (j, b) ∉ A := fun b hb => by rw [s.lst.yes j b true hb] at hju; cases hju
            have hja : j ∈ allocsOf ops := by
              have h1 := (List.all_eq_true.1 hwait) j (List.mem_range.2 hjl)
              simp only [hoj, Bool.or_eq_true, List.any_eq_true, Bool.and_eq_true, Bool.not_eq_true', beq_iff_eq] at h1
              rcases h1 with (h1 | h1) | ⟨e1, he1, hb1, h1⟩
              · rw [s.lst.no j true hjA, h1] at hju; cases hju
              · simpa using h1
              · exfalso
                have hl1 := hjall e1 (Array.mem_toList_iff.1 he1) hb1
                rcases h1 with h1 | h1
                · simp only [Bool.or_eq_false_iff] at h1
                  have hn1 : ∀ b, (e1.on, b) ∉ A := fun b hb => by
                    have := (s.early.al _ hb).1
                    have h2 := h1.2
                    simp at h2
                    exact h2 this
                  rw [s.lst.no e1.on false hn1, getD_two h1.1] at hl1; cases hl1
                · rw [h1, s.lst.no i false hnA, getD_two hunl] at hl1; cases hl1
            refine s.step_alloc hT hal hj hja fun G' A' ar' w' s' => ihn G' A' ar' _ w' ?_ s'
            have := left_set hjl hju (by rw [s.lst.size, s.size])
            omega
      | false =>
        simp only [hia, Bool.false_eq_true, if_false] at hkind hrest
        simp only [Bool.and_eq_true] at hkind
        obtain ⟨hwait, hks⟩ := hkind
        have hna : ∀ (A : Early) (w : World), EarlyOk T ops A l μ w0 w → ∀ b, (i, b) ∉ A := fun A w he b hb => by
          obtain ⟨_, o1, ho1, ha1⟩ := mem_allocs.1 (he.al _ hb).1
          rw [ho] at ho1; cases ho1
          rw [hia] at ha1; cases ha1
        intro n
        induction n with
        | zero =>
          intro G A ar lr w hn s
          exact absurd hn (hzero s.lst (hna A w s.early) (by rw [s.lst.size, s.size]))
        | succ n ihn =>
          intro G A ar lr w hn s
          have hnA := hna A w s.early
          have hapA := hapart A w s.early hnA
          have hir := hready s.lst hnA
          refine ⟨fun h0 => (by rw [h0] at hir; cases hir), fun j hj => ?_⟩
          obtain ⟨hju, oj, hoj, hjall⟩ := mem_ready.1 hj
          have hjl : j < ops.size := (Array.getElem?_eq_some_iff.1 hoj).1
          have hjA : ∀ b, (j, b) ∉ A := fun b hb => by rw [s.lst.yes j b true hb] at hju; cases hju
          have hleft : left ops.size (lr.setIfInBounds j true) ≤ n := by
            have := left_set hjl hju (by rw [s.lst.size, s.size])
            omega
          have hcases : j = i ∨ j ∈ allocsOf ops := by
            have h1 := (List.all_eq_true.1 hwait) j (List.mem_range.2 hjl)
            simp only [hoj, Bool.or_eq_true, List.any_eq_true, Bool.and_eq_true, Bool.not_eq_true', beq_iff_eq] at h1
            rcases h1 with ((h1 | h1) | h1) | ⟨e1, he1, hb1, h1⟩
            · rw [s.lst.no j true hjA, h1] at hju; cases hju
            · right; simpa using h1
            · left; exact h1
            · exfalso
              have hl1 := hjall e1 (Array.mem_toList_iff.1 he1) hb1
              simp only [Bool.or_eq_false_iff] at h1
              have hn1 : ∀ b, (e1.on, b) ∉ A := fun b hb => by
                have := (s.early.al _ hb).1
                have h2 := h1.2
                simp at h2
                exact h2 this
              rw [s.lst.no e1.on false hn1, getD_two h1.1] at hl1; cases hl1
          by_cases hji : j = i
          · subst hji
            have hmap : Wish.behind ops (G.map Ent.wish) j = (G.filter fun e => !(waits ops 3 e.i j)).map Ent.wish := by
              unfold Wish.behind
              rw [List.filter_map]; rfl
            rw [hmap]
            have hexec := s.act.exec hapA hse
            have hwar := s.act.wanted hapA
            have hearly' : ∀ (μ' : List Nat) (H' : List Blk) (w' : World), Ext μ H w μ' H' w' → EarlyOk T ops A (l.setIfInBounds j true) μ' w0 w' := fun μ' H' w' hx => by
              have hlt : ∀ x ∈ A, x.2 < w.heap.size := fun x hx => by
                obtain ⟨_, _, _, _, _, _, hb⟩ := s.early.zero x hx
                exact (Array.getElem?_eq_some_iff.1 hb).1
              refine ⟨fun x hx => ⟨(s.early.al x hx).1, ?_⟩, fun x hx' => ?_, fun x hx' => ⟨(hx.far (hlt x hx') (s.early.new x hx').1).2, (s.early.new x hx').2⟩, s.early.one, s.early.two⟩
              · have hne : j ≠ x.1 := fun e => hnA x.2 (by rw [e]; exact hx)
                rw [getD_set_ne true hne]; exact (s.early.al x hx).2
              · obtain ⟨o', e', i', h1, h2, h3, h4⟩ := s.early.zero x hx'
                exact ⟨o', e', i', h1, h2, h3, by rw [(hx.far (hlt x hx') (s.early.new x hx').1).1]; exact h4⟩
            have hfl : ∀ e ∈ G.filter (fun e => !(waits ops 3 e.i j)), e ∈ G ∧ e.i ∈ liveAfter ops ld j := fun e he => by
              obtain ⟨h1, h2⟩ := List.mem_filter.1 he
              exact ⟨h1, List.mem_filter.2 ⟨s.log.ld e h1, h2⟩⟩
            unfold wpOp
            simp only [ho]
            rcases want_sound s.vrs h with ⟨hw, h⟩ | ⟨hw, h⟩
            · rw [if_pos (by rw [hwar]; exact hw)]
              left
              refine effect_sound hT o (ar := ar) hexec h hoo s.vrs s.rel ?_
              intro v cv μ' H' w' hvr hr' hx' h
              obtain ⟨h, hkeep⟩ := keep_sound h
              obtain ⟨ts', h, hv'⟩ := put_sound (s.vrs.mono hx'.sub) hvr h
              have hmet : Met ((G.filter fun e => !(waits ops 3 e.i j)).map Ent.wish) w' := fun x hx => by
                obtain ⟨g, hg, rfl⟩ := List.mem_map.1 hx
                obtain ⟨hgG, hgl⟩ := hfl g hg
                have hgk : ks.any (Nat.beq g.s.i) = true := by
                  have h1 := (List.all_eq_true.1 hks) g.i hgl
                  have h2 : g.i ∈ ks := by simpa using h1
                  exact List.any_eq_true.2 ⟨g.i, h2, by simp [s.log.si g hgG]⟩
                obtain ⟨cl, hcl, hcells⟩ := hkeep g.s (s.log.seen g hgG) hgk g.n g.o g.c (s.log.sas g hgG) μ' w' g.b hr' (hx'.sub _ _ (s.log.place g hgG))
                have := hcl.functional ((s.log.cells g hgG).mono hx'.sub)
                subst this
                simpa [Ent.wish] using hcells
              refine ⟨hmet, ih _ _ μ' ts' H' (ap.put o.dst cv) L hrest h n _ A _ _ w' hleft ⟨s.hl0, hv', hr', s.ext.trans s.hl0 s.rel.len hx', ?_, s.act.put hapA cv, s.lst.set (by rw [s.size]; exact hil), by simp [s.size], s.down.set hir, hearly' μ' H' w' hx', ⟨fun e he => hx'.sub _ _ (s.log.place e (hfl e he).1), fun e he => (s.log.cells e (hfl e he).1).mono hx'.sub, fun e he => s.log.seen e (hfl e he).1, fun e he => (hfl e he).2, fun e he => s.log.sas e (hfl e he).1, fun e he => s.log.si e (hfl e he).1⟩, hmet⟩⟩
              unfold Act.put; cases o.dst <;> exact s.defers
            · rw [if_neg (by rw [hwar]; simp [hw])]
              obtain ⟨ts', h, hv'⟩ := put_sound s.vrs VR.undef h
              have hmet : Met ((G.filter fun e => !(waits ops 3 e.i j)).map Ent.wish) w := fun x hx => by
                obtain ⟨g, hg, rfl⟩ := List.mem_map.1 hx
                exact s.met _ (List.mem_map.2 ⟨g, (hfl g hg).1, rfl⟩)
              refine ⟨hmet, ih _ _ μ ts' H (ap.put o.dst undef) L hrest h n _ A _ _ w hleft ⟨s.hl0, hv', s.rel, s.ext, ?_, s.act.put hapA undef, s.lst.set (by rw [s.size]; exact hil), by simp [s.size], s.down.set hir, hearly' μ H w (Ext.refl _ _ _), ⟨fun e he => s.log.place e (hfl e he).1, fun e he => s.log.cells e (hfl e he).1, fun e he => s.log.seen e (hfl e he).1, fun e he => (hfl e he).2, fun e he => s.log.sas e (hfl e he).1, fun e he => s.log.si e (hfl e he).1⟩, hmet⟩⟩
              unfold Act.put; cases o.dst <;> exact s.defers
          · exact s.step_alloc hT hal hj (hcases.resolve_left hji) fun G' A' ar' w' s' => ihn G' A' ar' _ w' hleft s'

/-- A region that draws its order. -/
theorem region_draw (hT : TabOk P T) {p : Plan} (hp : planOk T ops p = true) (hok : ∀ o ∈ ops.toList, o.op.operands.toList.all opOk = true) {id : Nat} {μ : List Nat} {ts : List Value} {H : List Blk} {a : Act} {w : World}
    (h : planF P T ops.toList p [] ts H K) (hv : SRs μ ts a.tmps.toList) (hr : Rel μ H w) (hd : a.defers = []) : (Code.region id ops true).wp P (AtEnd (Out μ H w K)) a w := by
  simp only [planOk, Bool.and_eq_true] at hp
  obtain ⟨⟨hsel, hal⟩, hc⟩ := hp
  refine wp_region_any hT.mixed (any_of_anyK _ [] _ _ _ ?_)
  have hrep : ∀ j d, j < ops.size → (Array.replicate ops.size false).getD j d = false := fun j d hj => by simp [hj]
  have hx0 : Ext μ H w μ H w.drew := (Ext.refl _ _ _).drew
  refine plan_sound (μ0 := μ) (H0 := H) (w0 := w) hT hsel hal hok p _ [] μ ts H a [] hc h ops.size [] [] a _ w.drew ?_ ⟨hr.len, hv, hr.drew, hx0, hd, ⟨rfl, rfl, fun _ _ => rfl, by simp⟩, ⟨rfl, by simp, fun _ _ _ => rfl⟩, by simp, Down.none _, ⟨by simp, by simp, by simp, by simp, by simp⟩, ⟨by simp, by simp, by simp, by simp, by simp, by simp⟩, by intro x hx; simp at hx⟩
  have : left ops.size (Array.replicate ops.size false) ≤ (List.range ops.size).length := List.length_filter_le _ _
  simpa using this

end
end Go.Aw
