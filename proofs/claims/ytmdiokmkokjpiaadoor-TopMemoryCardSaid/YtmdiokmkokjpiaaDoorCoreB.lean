/-
  Walks through the functions of the program, by contract.
-/
import Derived.Test.YtmdiokmkokjpiaaDoorCoreA
import Derived.Laws.MakeOwn
import Derived.Laws.OwnMore
import Derived.LoopN
set_option linter.all false
set_option linter.unusedVariables false
set_option linter.unusedSimpArgs false
set_option linter.unnecessarySimpa false
section
/-
  The operations that make memory, write, or call; the operations of a region, in the text's order.
-/
set_option linter.unusedSectionVars false
namespace Go.Aw
variable [Base]
section
variable {P : Program} {T : Tab} {μ : List Nat} {ts : List Value} {a : Act}

/-- What follows is met in every world that holds what the operation leaves. -/
def Next' (μ : List Nat) (H : List Blk) (w : World) (a : Act) (dst : Option Tmp) (k : Value → List Blk → Prop) (next : Act → World → Prop) : Prop :=
  ∀ (v cv : Value) (μ' : List Nat) (H' : List Blk) (w' : World), VR μ' v cv → Rel μ' H' w' → Ext μ H w μ' H' w' → k v H' → next (a.put dst cv) w'

theorem wp_value {ar : Act} {o : Oper} (heq : execOp ar.eval o = execOp a.eval o) {w w' : World} {cv : Value} {next : Act → World → Prop} {Q : Exit → Act → World → Prop} (h : (execOp a.eval o).run P w = .ok (.value cv) w') (hn : next (ar.put o.dst cv) w') : o.wp P ar w next Q := by
  unfold Oper.wp; rw [heq, h]; exact hn
theorem wp_skipped {ar : Act} {o : Oper} (heq : execOp ar.eval o = execOp a.eval o) {w w' : World} {next : Act → World → Prop} {Q : Exit → Act → World → Prop} (h : (execOp a.eval o).run P w = .ok .skip w') (hn : next (ar.put o.dst undef) w') : o.wp P ar w next Q := by
  unfold Oper.wp; rw [heq, h]; exact hn

theorem blt_lt8 {i n : Nat} (h : Nat.blt i n = true) : i < n := by
  unfold Nat.blt at h
  exact Nat.le_of_ble_eq_true h
theorem one_eq (v : Value) : one v = v.oneCell' := by cases v <;> rfl

theorem store_sound (hT : TabOk P T) {H : List Blk} {w : World} (hr : Rel μ H w) {t : TypeId} {x cx v cv : Value} {k : List Blk → Prop} (h : storeF T H t x v k) (hx : VR μ x cx) (hv : VR μ v cv) :
    ∃ H' w', k H' ∧ (Instr.storeAt t cx cv).run P w = .ok () w' ∧ Rel μ H' w' ∧ Ext μ H w μ H' w' := by
  unfold storeF at h
  split at h
  · rename_i i o
    obtain ⟨b, rfl, hμ⟩ := hx.of_ptr
    obtain ⟨blk, hb, h⟩ := getF_iff h
    cases blk <;> try exact False.elim h
    rename_i c e
    replace h := tinfF_iff h
    obtain ⟨j, hj, h⟩ := h
    obtain ⟨c', hw, hc⟩ := hr.blk i b c e hb hμ
    -- the cells that are laid
    have key : ∀ (vs vs' : List Value), VRs μ vs vs' → vs.all one = true → cv.cells.toList = vs' → vs.length = j.size → (putF c o vs fun c' => setF H i (.cells c' e) k) →
        ∃ H' w', k H' ∧ (Instr.storeAt t (.pointer (some ⟨b, o, none⟩)) cv).run P w = .ok () w' ∧ Rel μ H' w' ∧ Ext μ H w μ H' w' := fun vs vs' hvs h1 hcv hlen h => by
      obtain ⟨hle, h⟩ := putF_iff h
      have h := setF_iff h
      obtain ⟨hr', hx'⟩ := hr.setRow hb hμ (hc.lay hvs o)
      have hle' : o + 0 + vs'.length ≤ c'.toArray.size := by rw [← hvs.1]; simp; rw [← hc.1]; exact hle
      have h1' : ∀ v ∈ vs', v.oneCell' = true := fun v hv => by
        obtain ⟨n, hn⟩ := List.mem_iff_getElem?.1 hv
        have hnl : n < vs.length := by rw [hvs.1]; exact (List.getElem?_eq_some_iff.1 hn).1
        have := hvs.2 n _ v (List.getElem?_eq_getElem hnl) hn
        rw [this.oneCell, ← one_eq]
        exact (List.all_eq_true.1 h1) _ (List.getElem_mem hnl)
      have hst := run_storeCells_at P b o e vs' 0 c'.toArray w hw hle' h1'
      have hsz : cv.cells.size = j.size := by
        have := congrArg List.length hcv; simp at this; rw [this, ← hvs.1, hlen]
      refine ⟨_, _, h, ?_, hr', hx'⟩
      have hst' : (storeCells ⟨b, o, none⟩ cv.cells.toList).run P w = .ok () (w.setRow b (lay c' o vs').toArray) := by
        rw [hcv]
        simpa [lay] using hst
      simp [Instr.storeAt, Instr.sureAddr, storeVar, hT.sizeOf hj w, hsz, hst']
    cases ha : isAggD j.desc with
    | true =>
      simp only [ha] at h
      cases v with
      | agg vs =>
        obtain ⟨hq, h⟩ := req_iff h
        simp only [Bool.and_eq_true] at hq
        obtain ⟨vs', rfl, hvs⟩ := hv.of_agg
        exact key vs.toList vs'.toList hvs hq.2 rfl (Nat.eq_of_beq_eq_true hq.1) h
      | _ => exact False.elim h
    | false =>
      simp only [ha] at h
      obtain ⟨hq, h⟩ := req_iff h
      simp only [Bool.and_eq_true] at hq
      refine key [v] [cv] (VRs.cons hv VRs.nil) (by simp [hq.1]) ?_ (Nat.eq_of_beq_eq_true hq.2).symm h
      have := hv.oneCell
      rw [← one_eq, ← one_eq, hq.1] at this
      cases cv <;> first | rfl | (simp [one] at this)
  · exact False.elim h

theorem alloc_run (hT : TabOk P T) {e : TypeId} {i : TInf} (hi : T[e]? = some (some i)) (w : World) :
    (Instr.alloc e true (.tuple #[])).run P w = .ok (.pointer (some ⟨w.heap.size, 0, none⟩)) (w.alloc (.cells i.zero.toArray e)) := by
  obtain ⟨f, z, hf, hs, hb, hz, hzc⟩ := hT.info e i hi
  have hzc' : z.cells = i.zero.toArray := by rw [← hzc]
  simp [Instr.alloc, zeroValue, typeInfo, hf, hz, newVar, newRow, hzc']

theorem last_name {μ : List Nat} {H : List Blk} {w : World} (h : Rel μ H w) (b : Nat) : (μ ++ [b])[H.length]? = some b := by rw [h.len]; simp

theorem oneF_iff {l : List Value} {k : VK} (h : oneF l k) : ∃ z, l = [z] ∧ k z := by
  match l, h with
  | [z], h => exact ⟨z, rfl, h⟩
  | [], h => exact False.elim h
  | _ :: _ :: _, h => exact False.elim h
theorem catF_iff {α : Type} {l m : List α} {k : List α → Prop} (h : catF l m k) : k (l ++ m) := by
  induction l generalizing k with
  | nil => exact h
  | cons a l ih => exact ih (k := fun l' => k (a :: l')) h
theorem catF_of {α : Type} {l m : List α} {k : List α → Prop} (h : k (l ++ m)) : catF l m k := by
  induction l generalizing k with
  | nil => exact h
  | cons a l ih => exact ih (k := fun l' => k (a :: l')) h

theorem VRs.flat {n : Nat} {z : List Value} (h : VRs μ z z) : VRs μ (replZ n z) (replZ n z) := by
  unfold replZ
  induction n with
  | zero => exact VRs.nil
  | succ n ih => rw [List.replicate_succ, List.flatten_cons]; exact h.append ih

theorem zeroCells_eq (z : Array Value) (n : Nat) : (Builtin.zeroCells z n).toList = replZ n z.toList := by
  unfold replZ Builtin.zeroCells
  apply List.ext_getElem?
  intro i
  simp only [Array.toList_map, Array.toList_range, List.getElem?_map]
  by_cases hi : i < n * z.size
  · have hz : 0 < z.size := by
      rcases Nat.eq_zero_or_pos z.size with h | h
      · rw [h] at hi; simp at hi
      · exact h
    rw [List.getElem?_range hi]
    simp only [Option.map_some]
    have hm : i % z.size < z.size := Nat.mod_lt _ hz
    rw [getElem!_pos z (i % z.size) hm]
    have key : ∀ (n i : Nat), i < n * z.size → (List.replicate n z.toList).flatten[i]? = some (z[i % z.size]'(Nat.mod_lt _ hz)) := by
      intro n
      induction n with
      | zero => intro i hi; simp at hi
      | succ n ih =>
        intro i hi
        rw [List.replicate_succ, List.flatten_cons, List.getElem?_append]
        split
        · rename_i hlt
          simp only [Array.length_toList] at hlt
          have e : i % z.size = i := Nat.mod_eq_of_lt hlt
          simp [e, hlt]
        · rename_i hge
          simp only [Array.length_toList] at hge ⊢
          rw [ih (i - z.size) (by rw [Nat.succ_mul] at hi; omega)]
          congr 1
          have : i % z.size = (i - z.size) % z.size := by
            rw [Nat.mod_eq_sub_mod (by omega)]
          simp only [this]
    rw [key n i hi]
  · rw [List.getElem?_eq_none (by simpa using Nat.le_of_not_lt hi), List.getElem?_eq_none]
    · rfl
    · simp only [List.length_flatten, List.map_replicate, Array.length_toList]
      have : ∀ n : Nat, (List.replicate n z.size).sum = n * z.size := fun n => by
        induction n with
        | zero => simp
        | succ n ih => rw [List.replicate_succ, List.sum_cons, ih, Nat.succ_mul]; omega
      rw [this]
      omega

/-- The source of an append or a copy. -/
theorem src_sound {H : List Blk} {w : World} (hr : Rel μ H w) {size : Nat} {x cx : Value} {k : List Value → Nat → Prop} (h : srcF H size x k) (hx : VR μ x cx) :
    ∃ (l l' : List Value) (n : Nat), k l n ∧ VRs μ l l' ∧ (Builtin.lenOf cx).run P w = .ok n w ∧ (∀ w' : World, w'.heap = w.heap → (Builtin.firstCells size n cx).run P w' = .ok l'.toArray w') ∧ l.length = n * size := by
  unfold srcF at h
  split at h
  · rename_i n c
    obtain ⟨hq, h⟩ := req_iff h
    have hn := Nat.eq_of_beq_eq_true hq
    subst hn
    cases hx
    exact ⟨[], [], 0, h, VRs.nil, rfl, fun _ _ => rfl, by simp⟩
  · rename_i b p n c
    obtain ⟨blk, hb, h⟩ := getF_iff h
    cases blk <;> try exact False.elim h
    rename_i cs e
    obtain ⟨h1, h⟩ := dropF_iff h
    obtain ⟨h2, h⟩ := takeF_iff h
    cases hx with
    | sl _ b' _ _ _ hμ =>
      obtain ⟨c', hw, hc⟩ := hr.blk _ _ _ _ hb hμ
      have hlen : ((c'.drop p).take (n * size)).length = n * size := by
        have := hc.1; simp at h2 ⊢; omega
      refine ⟨_, (c'.drop p).take (n * size), n, h, (hc.drop p).take _, rfl, fun w' hh => ?_, by simp at h2 ⊢; omega⟩
      have := run_loadCells_list (P := P) w' ⟨b', p, none⟩ ((c'.drop p).take (n * size)) (fun m x hx => by
        rw [add_lit, cell_of_row w' b' _ _ e _ (by rw [hh]; exact hw)]
        rw [List.getElem?_take] at hx
        split at hx
        · rw [List.getElem?_drop] at hx; simpa using hx
        · cases hx)
      rw [hlen] at this
      simpa [Builtin.firstCells] using this
  · exact False.elim h

theorem one_all {l l' : List Value} (h : l.all one = true) (hv : VRs μ l l') : ∀ v ∈ l', v.oneCell' = true := fun v hm => by
  obtain ⟨n, hn⟩ := List.mem_iff_getElem?.1 hm
  have hnl : n < l.length := by rw [hv.1]; exact (List.getElem?_eq_some_iff.1 hn).1
  have := hv.2 n _ v (List.getElem?_eq_getElem hnl) hn
  rw [this.oneCell, ← one_eq]
  exact (List.all_eq_true.1 h) _ (List.getElem_mem hnl)

theorem app_sound (hT : TabOk P T) {H : List Blk} {w : World} (hr : Rel μ H w) {t t1 e ty : TypeId} {i i1 j : TInf} (hi : T[t]? = some (some i)) (hd : i.desc = .slice e) (hi1 : T[t1]? = some (some i1)) {e1 : TypeId} (hd1 : i1.desc = .slice e1)
    (hj : T[e]? = some (some j)) {s x cs cx : Value} {k : Value → List Blk → Prop} (h : appF H e j s x k) (hs : VR μ s cs) (hx : VR μ x cx) {tys : Array TypeId} (ht : tys[0]? = some t) (ht1 : tys[1]? = some t1) :
    ∃ v cv μ' H' w', VR μ' v cv ∧ Rel μ' H' w' ∧ Ext μ H w μ' H' w' ∧ k v H' ∧ (Builtin.append_ tys ty #[cs, cx]).run P w = .ok cv w' := by
  obtain ⟨new, new', n, h, hnew, hlen, hfirst, hnl⟩ := src_sound (P := P) hr h hx
  obtain ⟨f, zv, hf, hfs, hfb, hfz, hzc⟩ := hT.info e j hj
  have hu := hT.underlying hi w
  have hu1 := hT.underlying hi1 w
  rw [hd] at hu
  rw [hd1] at hu1
  obtain ⟨base, len, cap, rfl⟩ : ∃ base len cap, s = .slice base len cap := by
    cases s with
    | slice base len cap => exact ⟨_, _, _, rfl⟩
    | _ => exact False.elim h
  rcases bif_iff h with ⟨hle, h⟩ | ⟨hgt, h⟩
  · have hle := of_decide_eq_true hle
    cases hs with
    | slN _ _ =>
      refine ⟨_, _, μ, H, w, .slN _ _, hr, Ext.refl _ _ _, h, ?_⟩
      simp [Builtin.append_, ht, ht1, hu, hu1, hT.sizeOf hj w, hlen, hle, hfirst w rfl]
    | sl b b' o _ _ hμ =>
      obtain ⟨blk, hb, h⟩ := getF_iff h
      cases blk <;> try exact False.elim h
      rename_i c e'
      obtain ⟨h1, h⟩ := req_iff h
      obtain ⟨hfit, h⟩ := putF_iff h
      have h := setF_iff h
      obtain ⟨c', hw, hc⟩ := hr.blk _ _ _ _ hb hμ
      obtain ⟨hr', hx'⟩ := hr.setRow hb hμ (hc.lay hnew (o + len * j.size))
      have hle' : o + len * j.size + 0 + new'.length ≤ c'.toArray.size := by rw [← hnew.1]; simp; rw [← hc.1]; exact hfit
      have hst := run_storeCells_at P b' (o + len * j.size) e' new' 0 c'.toArray w hw hle' (one_all h1 hnew)
      refine ⟨_, _, μ, _, _, .sl _ _ _ _ _ hμ, hr', hx', h, ?_⟩
      have hst' : (storeCells ⟨b', o + len * j.size, none⟩ new').run P w = .ok () (w.setRow b' (Aw.lay c' (o + len * j.size) new').toArray) := by
        simpa [Aw.lay] using hst
      simp [Builtin.append_, ht, ht1, hu, hu1, hT.sizeOf hj w, hlen, hle, hfirst w rfl, add_lit, hst']
  · have hgt := of_decide_eq_false hgt
    obtain ⟨hq, h⟩ := req_iff h
    simp only [Bool.and_eq_true, decide_eq_true_eq] at hq
    obtain ⟨⟨hq0, hq1⟩, hq2⟩ := hq
    have hb0 : f.bytes ≠ 0 := by
      rw [hfb]; intro e0; rw [e0] at hq2; simp [Nat.blt] at hq2
    obtain ⟨old, old', n2, h, hold, hlen2, hfirst2, hol⟩ := src_sound (P := P) hr h hs
    have hn2 : n2 = len := by
      cases hs <;> (simp [Builtin.lenOf] at hlen2; exact hlen2.symm)
    subst hn2
    have h := catF_iff h
    have hbase : ∃ cb, cs = .slice cb n2 cap := by cases hs <;> exact ⟨_, rfl⟩
    obtain ⟨cb, rfl⟩ := hbase
    let nc := (Question.appendCap (n2 + n) cap e).cut (w.tape w.drawn (.appendCap (n2 + n) cap e))
    have hnc : nc = n2 + n + w.tape w.drawn (.appendCap (n2 + n) cap e) % (2 ^ 63 - (n2 + n)) := rfl
    have hpow : (2 : Nat) ^ 63 = 9223372036854775808 := by decide
    have hlt : w.tape w.drawn (.appendCap (n2 + n) cap e) % (2 ^ 63 - (n2 + n)) < 2 ^ 63 - (n2 + n) := Nat.mod_lt _ (by rw [hpow]; omega)
    have h := h nc (by omega) (by omega)
    have h := catF_iff h
    have h := newF_nums h
    have hz0 := hT.zero e j hj μ
    obtain ⟨hr', hx'⟩ := hr.drew.alloc e ((hold.append hnew).append (VRs.flat (n := nc - (n2 + n)) hz0))
    refine ⟨_, .slice (some ⟨w.heap.size, 0, none⟩) (n2 + n) nc, _, _, _, .sl _ _ _ _ _ (last_name hr _), hr', hx'.of_drew, h, ?_⟩
    have hno : ¬ n2 + n ≤ cap := hgt
    have hcut : ¬ 281474976710656 < Builtin.nextslicecap (n2 + n) cap * f.bytes := by rw [hfb]; omega
    have hfill : Builtin.zeroCells zv.cells (nc - (n2 + n)) = (replZ (nc - (n2 + n)) j.zero).toArray := by
      apply Array.ext'
      rw [zeroCells_eq, hzc]
    have hch : (choose (.appendCap (n2 + n) cap e)).run P w = .ok nc w.drew := rfl
    have hlen' : (Builtin.lenOf cx).run P w = .ok n w := hlen
    have hf1 : (Builtin.firstCells j.size n2 (.slice cb n2 cap)).run P w.drew = .ok old'.toArray w.drew := hfirst2 w.drew rfl
    have hf2 : (Builtin.firstCells j.size n cx).run P w.drew = .ok new'.toArray w.drew := hfirst w.drew rfl
    simp [-run_choose, Builtin.append_, ht, ht1, hu, hu1, hT.sizeOf hj w, hlen', hno, typeInfo, hf, hb0, hcut, hch, hf1, hf2, zeroValue, hfz, hfill, newRow]

theorem effect_sound (hT : TabOk P T) (o : Oper) {ar : Act} (heq : execOp ar.eval o = execOp a.eval o) {H : List Blk} {w : World} {k : Value → List Blk → Prop} (h : effectF P T H ts o.op k) (ho : o.op.operands.toList.all opOk = true)
    (hv : SRs μ ts a.tmps.toList) (hr : Rel μ H w) {next : Act → World → Prop} {Q : Exit → Act → World → Prop} (hn : Next' μ H w ar o.dst k next) : o.wp P ar w next Q := by
  obtain ⟨dst, op, type, pos, after, guard⟩ := o
  simp only at h ho hn
  cases op <;> try exact False.elim h
  all_goals simp only [Op.operands, List.all_cons, List.all_nil, Bool.and_true, Bool.and_eq_true] at ho
  case alloc e =>
    replace h := tinfF_iff h
    obtain ⟨i, hi, h⟩ := h
    have h := newF_nums h
    obtain ⟨hr', hx'⟩ := hr.alloc e (hT.zero e i hi μ)
    exact wp_value heq (by simp [execOp, alloc_run hT hi w]) (hn _ _ _ _ _ (.ptr _ _ _ (last_name hr _)) hr' hx' h)
  case box e x =>
    obtain ⟨v, h, hvx⟩ := ev_sound hv h ho
    have h := newF_nums h
    obtain ⟨hr', hx'⟩ := hr.alloc e hvx.cells
    refine wp_value heq (w' := w.alloc (.cells (a.eval x).cells e)) (cv := .pointer (some ⟨w.heap.size, 0, none⟩)) ?_ (hn _ _ _ _ _ (.ptr _ _ _ (last_name hr _)) (by simpa using hr') (by simpa using hx') h)
    simp [execOp, Instr.box, newVar, newRow]
  case buildSlice t len ps =>
    obtain ⟨vs, h, hp⟩ := evp_sound hv ps.toList h (by simpa using ho)
    replace h := tinfF_iff h
    obtain ⟨i, hi, h⟩ := h
    split at h
    · rename_i e hd
      replace h := tinfF_iff h
      obtain ⟨j, hj, h⟩ := h
      split at h
      · rename_i hb0
        obtain ⟨hq, hfl⟩ := req_iff h
        simp only [Bool.and_eq_true] at hq hb0
        have hl1 : len = 1 := Nat.eq_of_beq_eq_true hb0.1
        subst hl1
        have hz1 : j.zero.length = j.size := Nat.eq_of_beq_eq_true hq.2
        have hs0 : 0 < j.size := blt_lt8 hq.1.1
        have hsb : j.size ≤ 16777216 := Nat.le_of_ble_eq_true hq.1.2
        obtain ⟨f, zv, hf, hfs, hfb, hfz, hzc⟩ := hT.info e j hj
        have hzz := hT.zero e j hj μ
        obtain ⟨r, r', h, hrr, hfill⟩ := fill_sound (μ := μ) (plc := fun n => some (n * j.size, j.size)) (fun n k h => ⟨_, rfl, h⟩) _ _ _ _ _ hfl hp hzz
        have h := newF_nums h
        obtain ⟨hr', hx'⟩ := hr.alloc e hrr
        refine wp_value heq (w' := w.alloc (.cells r'.toArray e)) (cv := .slice (some ⟨w.heap.size, 0, none⟩) 1 1) ?_ (hn _ _ _ _ _ (.sl _ _ _ _ _ (last_name hr _)) hr' hx' h)
        have hzs : zv.cells.size = j.size := by rw [← hz1, ← hzc]; simp
        have hrl : ((Array.range j.size).map fun n => zv.cells[n % zv.cells.size]!) = zv.cells := by
          apply Array.ext
          · simp [hzs]
          · intro m h1 h2
            have h3 : m < j.size := by simpa using h1
            simp [Nat.mod_eq_of_lt h2, h2]
        have hbig : ¬ (16777216 < j.size) := by omega
        have hne : j.size ≠ 0 := by omega
        have hfill' : Instr.fill (fun n => some (n * j.size, j.size)) zv.cells (ps.toList.map fun p => (p.1, a.eval p.2)) = some r'.toArray := by
          have e0 : j.zero.toArray = zv.cells := by rw [← hzc]
          rw [← e0]; simpa using hfill
        simp [execOp, Instr.buildSlice, hT.underlying hi w, hd, hT.sizeOf hj w, newRow, hne, hbig, zeroValue, typeInfo, hf, hfz, hrl, hfill']
      · obtain ⟨hq, h⟩ := req_iff h
        simp only [Bool.and_eq_true] at hq
        obtain ⟨z, hz, h⟩ := oneF_iff h
        have hs1 : j.size = 1 := Nat.eq_of_beq_eq_true hq.1
        have hlen : len ≤ 16777216 := Nat.le_of_ble_eq_true hq.2
        obtain ⟨f, zv, hf, hfs, hfb, hfz, hzc⟩ := hT.info e j hj
        have hzz := hT.zero e j hj μ
        have hzr : VR μ z z := by rw [hz] at hzz; exact hzz.2 0 z z rfl rfl
        have hrep : VRs μ (List.replicate len z) (List.replicate len z) := VRs.replicate len hzr
        obtain ⟨r, r', h, hrr, hfill⟩ := fill_sound (μ := μ) (plc := fun n => some (n * 1, 1)) (fun n k h => ⟨_, rfl, h⟩) _ _ _ _ _ h hp hrep
        have h := newF_nums h
        obtain ⟨hr', hx'⟩ := hr.alloc e hrr
        refine wp_value heq (w' := w.alloc (.cells r'.toArray e)) (cv := .slice (some ⟨w.heap.size, 0, none⟩) len len) ?_ (hn _ _ _ _ _ (.sl _ _ _ _ _ (last_name hr _)) hr' hx' h)
        have hzv : zv.cells = #[z] := by rw [← hzc] at hz; apply Array.ext'; simpa using hz
        have hrl : ((Array.range len).map fun n => ([z] : List Value)[n % 1]?.getD default) = (List.replicate len z).toArray := by
          apply Array.ext'
          apply List.ext_getElem?
          intro m
          by_cases hm : m < len
          · simp [hm, Nat.mod_one]
          · simp [hm]
        have e2 : (ps.map fun x => match x with | (i, x) => (i, a.eval x)).toList = ps.toList.map fun p => (p.1, a.eval p.2) := by simp
        have hbig : ¬ (16777216 < len) := by omega
        by_cases hl0 : len = 0
        · subst hl0
          have hfill' : Instr.fill (fun n => some (n, 1)) #[] (ps.toList.map fun p => (p.1, a.eval p.2)) = some r'.toArray := by simpa using hfill
          simp [execOp, Instr.buildSlice, hT.underlying hi w, hd, hT.sizeOf hj w, hs1, newRow, Array.range_zero', hfill']
        · have hfill' : Instr.fill (fun n => some (n, 1)) (Array.replicate len z) (ps.toList.map fun p => (p.1, a.eval p.2)) = some r'.toArray := by simpa using hfill
          simp [execOp, Instr.buildSlice, hT.underlying hi w, hd, hT.sizeOf hj w, hs1, newRow, hl0, hbig, zeroValue, typeInfo, hf, hfz, hzv, hrl, hfill']
    · exact False.elim h
  case store t x y =>
    obtain ⟨vx, h, hx⟩ := ev_sound hv h ho.1
    obtain ⟨vy, h, hy⟩ := ev_sound hv h ho.2
    obtain ⟨H', w', h, hrun, hr', hx'⟩ := store_sound hT hr h hx hy
    exact wp_skipped heq (by simp [execOp, hrun]) (hn _ _ _ _ _ VR.undef hr' hx' h)
  case makeSlice t l c =>
    obtain ⟨vl, h, hl⟩ := ev_sound hv h ho.1
    obtain ⟨vc, h, hc⟩ := ev_sound hv h ho.2
    replace h := tinfF_iff h
    obtain ⟨i, hi, h⟩ := h
    obtain ⟨e, kl, l', kc, c', hd, rfl, rfl⟩ : ∃ e kl l' kc c', i.desc = .slice e ∧ vl = .int kl l' ∧ vc = .int kc c' := by
      split at h
      · exact ⟨_, _, _, _, _, ‹_›, rfl, rfl⟩
      · exact False.elim h
    simp only [hd] at h
    replace h := tinfF_iff h
    obtain ⟨j, hj, h⟩ := h
    obtain ⟨hq, h⟩ := req_iff h
    simp only [Bool.and_eq_true, decide_eq_true_eq] at hq
    obtain ⟨⟨⟨⟨hs, h0⟩, hlc⟩, hb⟩, h63⟩ := hq
    have hs1 : j.size = 1 := Nat.eq_of_beq_eq_true hs
    obtain ⟨z, hz, h⟩ := oneF_iff h
    have h := h _ rfl
    have h := newF_nums h
    obtain ⟨f, zv, hf, hfs, hfb, hfz, hzc⟩ := hT.info e j hj
    have hzz := hT.zero e j hj μ
    have hzr : VR μ z z := by rw [hz] at hzz; exact hzz.2 0 z z rfl rfl
    have hzv : zv.cells = #[z] := by rw [← hzc] at hz; apply Array.ext'; simpa using hz
    have hrep : VRs μ (repl c'.toNat z) (repl c'.toNat z) := by unfold repl; exact VRs.replicate _ hzr
    obtain ⟨hr', hx'⟩ := hr.alloc e hrep
    generalize hzl : a.eval l = yl at hl
    generalize hzc2 : a.eval c = yc at hc
    cases hl; cases hc
    refine wp_value heq (w' := w.alloc (.cells (repl c'.toNat z).toArray e)) (cv := .slice (some ⟨w.heap.size, 0, none⟩) l'.toNat c'.toNat) ?_ (hn _ _ _ _ _ (.sl _ _ _ _ _ (last_name hr _)) hr' hx' h)
    have := run_make (P := P) w t e f zv ((hT.und t i hi).trans (by rw [hd])) hf hfz kl kc l' c' h0 hlc (by rw [hfb]; exact hb) h63
    have e2 : (madeCells zv.cells (c'.toNat * f.size)) = (repl c'.toNat z).toArray := by
      apply Array.ext'
      rw [hzv, hfs, hs1, Nat.mul_one, toList_madeCells_one]
      simp [repl]
    rw [e2] at this
    simp [execOp, hzl, hzc2, this]
  case call c =>
    obtain ⟨callee, args, tys⟩ := c
    cases callee with
    | invoke r m => exact False.elim h
    | builtin b =>
      simp only [Call.operands, Array.toList_append, List.all_append, Bool.and_eq_true, List.all_nil, true_and] at ho
      cases b <;> try exact False.elim h
      case append =>
        obtain ⟨vs, h, hvs⟩ := evs_sound hv args.toList h ho
        obtain ⟨t, ht, h⟩ := getF_iff h
        obtain ⟨t1, ht1, h⟩ := getF_iff h
        replace h := tinfF_iff h
        obtain ⟨i, hi, h⟩ := h
        replace h := tinfF_iff h
        obtain ⟨i1, hi1, h⟩ := h
        obtain ⟨e, e1, s, x, hd, hd1, rfl⟩ : ∃ e e1 s x, i.desc = .slice e ∧ i1.desc = .slice e1 ∧ vs = [s, x] := by
          split at h
          · exact ⟨_, _, _, _, ‹_›, ‹_›, rfl⟩
          · exact False.elim h
        simp only [hd, hd1] at h
        replace h := tinfF_iff h
        obtain ⟨j, hj, h⟩ := h
        obtain ⟨cs, cx, hargs⟩ : ∃ cs cx, args.toList.map a.eval = [cs, cx] := by
          have := hvs.1
          match hl : args.toList.map a.eval, this with
          | [cs, cx], _ => exact ⟨cs, cx, rfl⟩
        rw [hargs] at hvs
        obtain ⟨v, cv, μ', H', w', hvr, hr', hx', hk, hrun⟩ := app_sound (ty := type) hT hr hi hd hi1 hd1 hj h (hvs.2 0 _ _ rfl rfl) (hvs.2 1 _ _ rfl rfl) (tys := tys) (by simpa using ht) (by simpa using ht1)
        refine wp_value heq ?_ (hn _ _ _ _ _ hvr hr' hx' hk)
        have hargs' : args.map a.eval = #[cs, cx] := by apply Array.ext'; simpa using hargs
        simp only [execOp, resolve, invoke, builtin, hargs', Sem.run_bind, Sem.run_pure, Result.andThen_ok, hrun]
      case copy =>
        obtain ⟨vs, h, hvs⟩ := evs_sound hv args.toList h ho
        obtain ⟨t, ht, h⟩ := getF_iff h
        replace h := tinfF_iff h
        obtain ⟨i, hi, h⟩ := h
        obtain ⟨e, s, x, hd, rfl⟩ : ∃ e s x, i.desc = .slice e ∧ vs = [s, x] := by
          split at h
          · exact ⟨_, _, _, ‹_›, rfl⟩
          · exact False.elim h
        simp only [hd] at h
        replace h := tinfF_iff h
        obtain ⟨j, hj, h⟩ := h
        obtain ⟨hq, h⟩ := req_iff h
        have hs1 : j.size = 1 := Nat.eq_of_beq_eq_true hq
        obtain ⟨cs, cx, hargs⟩ : ∃ cs cx, args.toList.map a.eval = [cs, cx] := by
          have := hvs.1
          match hl : args.toList.map a.eval, this with
          | [cs, cx], _ => exact ⟨cs, cx, rfl⟩
        rw [hargs] at hvs
        have hvs0 := hvs.2 0 _ _ rfl rfl
        have hvs1 := hvs.2 1 _ _ rfl rfl
        obtain ⟨b, o, dl, dc, b2, p, sl, sc, rfl, rfl⟩ : ∃ b o dl dc b2 p sl sc, s = .slice (some ⟨b, o, none⟩) dl dc ∧ x = .slice (some ⟨b2, p, none⟩) sl sc := by
          unfold copyF at h
          split at h
          · exact ⟨_, _, _, _, _, _, _, _, rfl, rfl⟩
          · exact False.elim h
        · obtain ⟨blk2, hb2, h⟩ := getF_iff h
          cases blk2 with
          | cells c2 e2 =>
            obtain ⟨h1, h⟩ := dropF_iff h
            obtain ⟨h2, h⟩ := takeF_iff h
            obtain ⟨hone, h⟩ := req_iff h
            obtain ⟨blk, hb, h⟩ := getF_iff h
            cases blk with
            | cells c e3 =>
              obtain ⟨hfit, h⟩ := putF_iff h
              have h := setF_iff h
              cases hvs0 with
              | sl _ b' _ _ _ hμ =>
              cases hvs1 with
              | sl _ b2' _ _ _ hμ2 =>
                obtain ⟨c', hw, hc⟩ := hr.blk _ _ _ _ hb hμ
                obtain ⟨c2', hw2, hc2⟩ := hr.blk _ _ _ _ hb2 hμ2
                have hl' : VRs μ ((c2.drop p).take (Nat.min sl dl)) ((c2'.drop p).take (Nat.min sl dl)) := (hc2.drop p).take _
                obtain ⟨hr', hx'⟩ := hr.setRow hb hμ (hc.lay hl' o)
                have hlen : ((c2'.drop p).take (Nat.min sl dl)).length = Nat.min sl dl := by rw [← hl'.1]; exact List.length_take_of_le h2
                have hrun := run_copy_row (P := P) w t (tys.getD 1 0) type e b' o dl dc ⟨b2', p, none⟩ sl sc c'.toArray e3 ((c2'.drop p).take (Nat.min sl dl)) ((hT.und t i hi).trans (by rw [hd]))
                  (by obtain ⟨f, zv, hf, hfs, _⟩ := hT.info e j hj; simp [hf, hfs, hs1]) hw hlen
                  (fun m x hx => by
                    rw [add_lit, cell_of_row w b2' _ _ e2 _ hw2]
                    rw [List.getElem?_take] at hx
                    split at hx
                    · rw [List.getElem?_drop] at hx; simpa using hx
                    · cases hx)
                  (by rw [← hl'.1]; simp only [List.size_toArray]; rw [← hc.1]; exact hfit) (one_all hone hl')
                have hargs' : args.map a.eval = #[.slice (some ⟨b', o, none⟩) dl dc, .slice (some ⟨b2', p, none⟩) sl sc] := by apply Array.ext'; simpa using hargs
                refine wp_value heq (w' := w.setRow b' (Aw.lay c' o ((c2'.drop p).take (Nat.min sl dl))).toArray) (cv := goInt ((c2'.drop p).take (Nat.min sl dl)).length) ?_ (hn _ _ _ _ _ (by rw [hl'.1]; exact .int _ _) hr' hx' h)
                have hcopy : ∀ tys' : Array TypeId, tys'[0]? = some t → Builtin.copy_ tys' type #[.slice (some ⟨b', o, none⟩) dl dc, .slice (some ⟨b2', p, none⟩) sl sc] = Builtin.copy_ #[t, tys.getD 1 0] type #[.slice (some ⟨b', o, none⟩) dl dc, .slice (some ⟨b2', p, none⟩) sl sc] := fun tys' h' => by
                  unfold Builtin.copy_; simp [h']
                simp only [execOp, resolve, invoke, builtin, hargs', Sem.run_bind, Sem.run_pure, Result.andThen_ok, hcopy tys (by simpa using ht), hrun]
                simp [Aw.lay]
            | _ => exact False.elim h
          | _ => exact False.elim h
    | value f =>
      simp only [Call.operands, Array.toList_append, List.all_append, Bool.and_eq_true, List.all_cons, List.all_nil, Bool.and_true] at ho
      obtain ⟨vf, h, hf⟩ := ev_sound hv h ho.1
      obtain ⟨vs, h, hvs⟩ := evs_sound hv args.toList h ho.2
      obtain ⟨g, b, c, rfl⟩ : ∃ g b c, vf = .func (.func g) b c := by
        split at h
        · exact ⟨_, _, _, rfl⟩
        · exact False.elim h
      generalize hz : a.eval f = z at hf
      cases hf with
      | fn _ _ b' _ c' hb hc rb rc =>
        have hargs : VRs μ (b.toList ++ vs ++ c.toList) (b'.toList ++ args.toList.map a.eval ++ c'.toList) :=
          (VRs.append (VRs.append ⟨by simpa using hb, fun i x y hx hy => rb i x y (by simpa using hx) (by simpa using hy)⟩ hvs) ⟨by simpa using hc, fun i x y hx hy => rc i x y (by simpa using hx) (by simpa using hy)⟩)
        obtain ⟨henter, hcalls⟩ := h.out μ w _ hargs hr
        have hrun : (execOp a.eval { dst := dst, op := .call ⟨.value f, args, tys⟩, type := type, pos := pos, after := after, guard := guard }).run P w = .ok (.enter g (b'.toList ++ args.toList.map a.eval ++ c'.toList).toArray) w := by
          rw [← henter]
          simp only [execOp, resolve, hz, Deferred.ofValue, Sem.run_bind, Sem.run_pure, Result.andThen_ok, invoke]
          congr 2
          apply Array.ext'
          simp
        unfold Oper.wp
        rw [heq, hrun, Oper.upon_enter]
        refine hcalls.mono fun e w' hh => ?_
        obtain ⟨v, cv, μ', H', rfl, hvr, hr', hx', hk⟩ := hh
        exact hn _ _ _ _ _ hvr hr' hx' hk

end
end Go.Aw
end
section
/-
  Regions: in the text's order; and those that draw their order, by a plan.
-/
set_option linter.unusedSectionVars false
namespace Go.Aw
variable [Base]
section
variable {P : Program} {T : Tab}

/-- Where it comes out: a frame and a world of which 'k' tells. -/
def Out (μ0 : List Nat) (H0 : List Blk) (w0 : World) (k : List Value → List Blk → Prop) (a : Act) (w : World) : Prop :=
  ∃ (μ : List Nat) (ts : List Value) (H : List Blk), SRs μ ts a.tmps.toList ∧ Rel μ H w ∧ Ext μ0 H0 w0 μ H w ∧ a.defers = [] ∧ k ts H

/-- Of the exits only the one at the end. -/
def AtEnd (R : Act → World → Prop) : Exit → Act → World → Prop
  | .normal, a, w => R a w
  | _, _, _ => False

theorem put_sound {μ : List Nat} {ts : List Value} {a : Act} (hv : SRs μ ts a.tmps.toList) {dst : Option Tmp} {v cv : Value} (hr : VR μ v cv) {k : List Value → Prop} (h : putDst ts dst v k) :
    ∃ ts', k ts' ∧ SRs μ ts' (a.put dst cv).tmps.toList := by
  cases dst with
  | none => exact ⟨ts, h, hv⟩
  | some d => exact ⟨_, setF_iff h, by simpa [Act.put] using hv.set d hr⟩

theorem want_sound {μ : List Nat} {ts : List Value} {a : Act} {ops : Array Oper} (hv : SRs μ ts a.tmps.toList) {o : Oper} {yes no : Unit → Prop} (h : wantF ops.toList ts o.guard yes no) :
    (Region.wanted o (yielded ops a.tmps) = true ∧ yes ()) ∨ (Region.wanted o (yielded ops a.tmps) = false ∧ no ()) := by
  unfold wantF at h
  unfold Region.wanted
  cases hg : o.guard with
  | none => rw [hg] at h; exact .inl ⟨rfl, h⟩
  | some g =>
    obtain ⟨j, want⟩ := g
    rw [hg] at h
    obtain ⟨oj, hj, h⟩ := getF_iff h
    have hj' : ops[j]? = some oj := by simpa using hj
    simp only
    cases hd : oj.dst with
    | none =>
      simp only [hd] at h
      exact .inr ⟨by simp [yielded, hj', hd], h⟩
    | some d =>
      simp only [hd] at h
      obtain ⟨v, hvd, h⟩ := getF_iff h
      obtain ⟨cv, hcv, hr⟩ := hv.get hvd
      have hcv' : a.tmps[d]? = some cv := by simpa using hcv
      have hy : yielded ops a.tmps j = match cv with | .bool b => some b | _ => none := by
        simp only [yielded, hj', Option.bind_some, hd, hcv']
        cases cv <;> rfl
      split at h
      · rename_i b
        replace hr := sure_of (fun e => by cases e) hr
        cases hr
        rcases bif_iff h with ⟨rfl, h⟩ | ⟨rfl, h⟩
        · exact .inl ⟨by simp [hy], h⟩
        · exact .inr ⟨by simp [hy], h⟩
      · rename_i b
        replace hr := sure_of (fun e => by cases e) hr
        cases hr
        rcases bif_iff h with ⟨rfl, h⟩ | ⟨rfl, h⟩
        · exact .inr ⟨by simp [hy], h⟩
        · exact .inl ⟨by simp [hy], h⟩
      · exact False.elim h
      · rename_i hc
        refine .inr ⟨?_, h⟩
        rw [hy]
        replace hr := sure_of (fun e => by subst e; simp_all) hr
        cases hr <;> simp_all

/-- A quiet operation, in a world that holds the heap: what it gives; what it reads. -/
theorem quiet_here (hT : TabOk P T) (o : Oper) {μ : List Nat} {ts : List Value} {a : Act} {H : List Blk} {w : World} {k : VK} (h : quietF T H ts o.op k) (ho : o.op.operands.toList.all opOk = true) (hv : SRs μ ts a.tmps.toList) (hr : Rel μ H w) :
    ∃ v cv, k v ∧ VR μ v cv ∧ ((isLd o.op = false ∧ ∀ w, (execOp a.eval o).run P w = .ok (.value cv) w) ∨
      ∃ t x i off b l, o.op = .load t x ∧ opV ts x = some (.pointer (some ⟨i, off, none⟩)) ∧ μ[i]? = some b ∧ LdOk T H t i off v ∧ VRs μ (ldl T t v) l ∧ CellsAt b off l w ∧ ∀ w', CellsAt b off l w' → (execOp a.eval o).run P w' = .ok (.value cv) w') := by
  rcases quiet_sound hT o h ho hv with ⟨hl, v, cv, hk, hvr, hrun⟩ | ⟨t, x, i, off, v, ho', hx, hk, hl⟩
  · exact ⟨v, cv, hk, hvr, .inl ⟨hl, hrun⟩⟩
  · have hxo : opOk x = true := by rw [ho'] at ho; simpa [Op.operands] using ho
    obtain ⟨b, hb, hμ⟩ := (opV_sound hv hxo hx).of_ptr
    obtain ⟨l, hvl, hc⟩ := hl.cells μ w b hr hμ
    obtain ⟨cv, hvr, hrun⟩ := ld_run (o := off) (b := b) hT hl hvl
    refine ⟨v, cv, hk, hvr, .inr ⟨t, x, i, off, b, l, ho', hx, hμ, hl, hvl, hc, fun w' hw' => ?_⟩⟩
    obtain ⟨dst, op, type, pos, after, guard⟩ := o
    simp only at ho'
    subst ho'
    simp [execOp, hb, Instr.loadAt, Instr.sureAddr, hrun w' hw']

theorem strPush_eq {f : Value → ByteArray → Sem (ForInStep ByteArray)} (hf : ∀ (n : Int) (r : ByteArray), f (.int .u8 n) r = pure (ForInStep.yield (r.push (UInt8.ofNat n.toNat)))) : ∀ (l : List Int) (s : ByteArray) (w : World),
    (forIn (m := Sem) (l.map fun n => Value.int .u8 n) s f).run P w = .ok (strPush s l) w
  | [], s, w => rfl
  | n :: l, s, w => by
    simp only [List.map_cons, List.forIn_cons, hf, pure_bind]
    exact strPush_eq hf l _ w

theorem ints_of {μ : List Nat} {l : List Int} {c c' : List Value} {o : Nat} (hc : VRs μ c c') (h : ∀ (i : Nat) (x : Int), l[i]? = some x → c[o + i]? = some (.int .u8 x)) (i : Nat) (x : Value) (hx : (l.map fun n => Value.int .u8 n)[i]? = some x) : c'[o + i]? = some x := by
  rw [List.getElem?_map] at hx
  cases hl : l[i]? with
  | none => rw [hl] at hx; cases hx
  | some n =>
    rw [hl] at hx
    cases hx
    obtain ⟨y, hy, hr⟩ := hc.get (h i n hl)
    cases hr; exact hy

theorem convS_sound (hT : TabOk P T) {μ : List Nat} {H : List Blk} {w : World} {s d : TypeId} {x cx : Value} {k : VK} (h : convS T H s d x k) (hx : VR μ x cx) (hr : Rel μ H w) : ∃ v cv, k v ∧ VR μ v cv ∧ (convert s d cx).run P w = .ok cv w := by
  replace h := tinfF_iff h
  obtain ⟨i, hi, h⟩ := h
  replace h := tinfF_iff h
  obtain ⟨j, hj, h⟩ := h
  split at h
  · rename_i e n m hd1 hd2
    obtain ⟨q, hq, h⟩ := tinfF_iff h
    obtain ⟨hu, h⟩ := req_iff h
    have hqd : q.desc = .int .u8 := by unfold isU8 at hu; split at hu <;> simp_all
    cases hx
    refine ⟨_, _, h .empty rfl, .str _, ?_⟩
    simp [convert, hT.underlying hi w, hT.underlying hj w, hT.underlying hq w, hd1, hd2, hqd, Conv.bytesToString]
  · rename_i e b o n m hd1 hd2
    obtain ⟨q, hq, h⟩ := tinfF_iff h
    obtain ⟨hu, h⟩ := req_iff h
    have hqd : q.desc = .int .u8 := by unfold isU8 at hu; split at hu <;> simp_all
    obtain ⟨l, hl, ⟨c, e', hb, hc⟩, h⟩ := h
    cases hx with
    | sl _ cb _ _ _ hμ =>
      obtain ⟨c', hw, hcv⟩ := hr.blk b cb c e' hb hμ
      refine ⟨_, _, h, .str _, ?_⟩
      have h1 := run_loadCells_list (P := P) w ⟨cb, o, none⟩ (l.map fun n => Value.int .u8 n) (fun m x hx => by
        rw [add_lit, cell_of_row w cb _ _ e' _ hw]
        simpa using ints_of hcv hc m x hx)
      rw [List.length_map, hl] at h1
      simp only [convert, Sem.run_bind, hT.underlying hi w, hT.underlying hj w, hT.underlying hq w, hd1, hd2, hqd, Conv.bytesToString, Result.andThen_ok, h1]
      rw [List.forIn_toArray, strPush_eq (P := P) (fun _ _ => rfl)]
      unfold strOf
      rfl
  · cases hx; exact ⟨_, _, h, .str _, by simp [convert, hT.underlying hi w, hT.underlying hj w, *]⟩
  · rename_i kd kx n hd
    cases hx
    refine ⟨_, _, h, .int _ _, ?_⟩
    simp [convert, hT.underlying hi w, hT.underlying hj w, hd, Conv.intToInt]
  · exact False.elim h

/-- A quiet operation, where the order is the text's. -/
theorem quietS_here (hT : TabOk P T) (o : Oper) {μ : List Nat} {ts : List Value} {a : Act} {H : List Blk} {w : World} {k : VK} (h : quietS T H ts o.op k) (ho : o.op.operands.toList.all opOk = true) (hv : SRs μ ts a.tmps.toList) (hr : Rel μ H w) :
    ∃ v cv, k v ∧ VR μ v cv ∧ (execOp a.eval o).run P w = .ok (.value cv) w := by
  have key : quietF T H ts o.op k → ∃ v cv, k v ∧ VR μ v cv ∧ (execOp a.eval o).run P w = .ok (.value cv) w := fun h => by
    obtain ⟨v, cv, h, hvr, hcase⟩ := quiet_here hT o h ho hv hr
    refine ⟨v, cv, h, hvr, ?_⟩
    rcases hcase with ⟨_, hrun⟩ | ⟨t, x, i, off, b, l, _, _, _, _, _, hc, hrun⟩
    · exact hrun w
    · exact hrun w hc
  unfold quietS at h
  split at h
  · rename_i s d x heq
    rw [heq] at ho
    simp only [Op.operands, List.all_cons, List.all_nil, Bool.and_true, Bool.and_eq_true] at ho
    replace h := ev_sound hv h ho
    obtain ⟨vx, h, hx⟩ := h
    obtain ⟨v, cv, hk, hvr, hrun⟩ := convS_sound hT h hx hr
    refine ⟨v, cv, hk, hvr, ?_⟩
    obtain ⟨dst, op, type, pos, after, guard⟩ := o
    simp only at heq
    subst heq
    simp [execOp, hrun]
  · exact key h

theorem ops_sound (hT : TabOk P T) {ops : Array Oper} (hok : ∀ o ∈ ops.toList, o.op.operands.toList.all opOk = true) {μ0 : List Nat} {H0 : List Blk} {w0 : World} {K : List Value → List Blk → Prop} (hl0 : H0.length = μ0.length) :
    ∀ (rest : List Oper) (n : Nat), ops.toList.drop n = rest → ∀ (μ : List Nat) (ts : List Value) (H : List Blk) (a : Act) (w : World), opsF P T ops.toList rest ts H K → SRs μ ts a.tmps.toList → Rel μ H w → Ext μ0 H0 w0 μ H w → a.defers = [] →
      wpOps P ops (AtEnd (Out μ0 H0 w0 K)) (List.range' n rest.length) a w
  | [], n, hd, μ, ts, H, a, w, h, hv, hr, hx, hdef => ⟨μ, ts, H, hv, hr, hx, hdef, h⟩
  | o :: rest, n, hd, μ, ts, H, a, w, h, hv, hr, hx, hdef => by
    have hn : ops[n]? = some o := by
      have := congrArg (fun l => l[0]?) hd
      simp only [List.getElem?_drop, Nat.add_zero, List.getElem?_cons_zero] at this
      simpa using this
    have hd' : ops.toList.drop (n + 1) = rest := by
      have := congrArg (List.drop 1) hd
      simpa [List.drop_drop] using this
    have hoo : o.op.operands.toList.all opOk = true := hok o (by
      have : o ∈ ops.toList.drop n := by rw [hd]; exact List.mem_cons_self ..
      exact List.mem_of_mem_drop this)
    simp only [List.length_cons, List.range'_succ, wpOps, hn]
    unfold opsF at h
    rcases want_sound hv h with ⟨hw, h⟩ | ⟨hw, h⟩
    · rw [if_pos hw]
      left
      cases hq : quietOp o.op with
      | true =>
        simp only [hq] at h
        obtain ⟨v, cv, h, hvr, hrun⟩ := quietS_here hT o h hoo hv hr
        obtain ⟨ts', h, hv'⟩ := put_sound hv hvr h
        refine wp_value (ar := a) rfl hrun (ops_sound hT hok hl0 rest (n + 1) hd' μ ts' H _ w h hv' hr hx ?_)
        unfold Act.put; cases o.dst <;> exact hdef
      | false =>
        simp only [hq] at h
        refine effect_sound hT o (ar := a) rfl h hoo hv hr ?_
        intro v cv μ' H' w' hvr hr' hx' h
        obtain ⟨ts', h, hv'⟩ := put_sound (hv.mono hx'.sub) hvr h
        refine ops_sound hT hok hl0 rest (n + 1) hd' μ' ts' H' _ w' h hv' hr' (hx.trans hl0 hr.len hx') ?_
        unfold Act.put; cases o.dst <;> exact hdef
    · rw [if_neg (by simp [hw])]
      obtain ⟨ts', h, hv'⟩ := put_sound hv VR.undef h
      refine ops_sound hT hok hl0 rest (n + 1) hd' μ ts' H _ w h hv' hr hx ?_
      unfold Act.put; cases o.dst <;> exact hdef

/-- What is kept of what was read. -/
def SeenAs (T : Tab) (s : Seen) (n o : Nat) (c : List Value) : Prop :=
  (∃ len cap : Nat, s.a = .slice (some ⟨n, o, none⟩) len cap ∧ s.v = .agg c.toArray) ∨ (s.a = .pointer (some ⟨n, o, none⟩) ∧ c = ldl T s.t s.v)
def isLoad : Op → Bool
  | .load .. => true
  | .convert .. => true
  | _ => false

theorem ints_flat (μ : List Nat) (l : List Int) : VRs μ (l.map fun n => Value.int .u8 n) (l.map fun n => Value.int .u8 n) := ⟨rfl, fun i x y hx hy => by
  rw [hx] at hy; cases hy
  rw [List.getElem?_map] at hx
  cases h : l[i]? with
  | none => rw [h] at hx; cases hx
  | some n => rw [h] at hx; cases hx; exact .int _ _⟩

theorem convP_sound (hT : TabOk P T) {μ : List Nat} {H : List Blk} {w : World} {s d : TypeId} {x cx : Value} {k : Value → Option (List Value) → Prop} (h : convP T H s d x k) (hx : VR μ x cx) (hr : Rel μ H w) :
    ∃ v cv, VR μ v cv ∧ ((k v none ∧ ∀ w', (convert s d cx).run P w' = .ok cv w') ∨
      ∃ nm o n m b c l, x = .slice (some ⟨nm, o, none⟩) n m ∧ k v (some c) ∧ μ[nm]? = some b ∧ VRs μ c l ∧ CellsAt b o l w ∧ ∀ w', CellsAt b o l w' → (convert s d cx).run P w' = .ok cv w') := by
  replace h := tinfF_iff h
  obtain ⟨i, hi, h⟩ := h
  replace h := tinfF_iff h
  obtain ⟨j, hj, h⟩ := h
  split at h
  · rename_i e n m hd1 hd2
    obtain ⟨q, hq, h⟩ := tinfF_iff h
    obtain ⟨hu, h⟩ := req_iff h
    have hqd : q.desc = .int .u8 := by unfold isU8 at hu; split at hu <;> simp_all
    cases hx
    refine ⟨_, _, .str _, .inl ⟨h .empty rfl, fun w' => ?_⟩⟩
    simp [convert, hT.underlying hi w', hT.underlying hj w', hT.underlying hq w', hd1, hd2, hqd, Conv.bytesToString]
  · rename_i e b o n m hd1 hd2
    obtain ⟨q, hq, h⟩ := tinfF_iff h
    obtain ⟨hu, h⟩ := req_iff h
    have hqd : q.desc = .int .u8 := by unfold isU8 at hu; split at hu <;> simp_all
    obtain ⟨l, hl, ⟨c, e', hb, hc⟩, h⟩ := h
    cases hx with
    | sl _ cb _ _ _ hμ =>
      obtain ⟨c', hw, hcv⟩ := hr.blk b cb c e' hb hμ
      refine ⟨_, _, .str _, .inr ⟨b, o, n, m, cb, _, l.map fun n => Value.int .u8 n, rfl, h, hμ, ints_flat _ _, fun j v hj => ?_, fun w' hw' => ?_⟩⟩
      · rw [cell_of_row w cb _ _ e' _ hw]
        simpa using ints_of hcv hc j v hj
      · have h1 := run_loadCells_list (P := P) w' ⟨cb, o, none⟩ (l.map fun n => Value.int .u8 n) (fun m x hx => by rw [add_lit]; exact hw' m x hx)
        rw [List.length_map, hl] at h1
        simp only [convert, Sem.run_bind, hT.underlying hi w', hT.underlying hj w', hT.underlying hq w', hd1, hd2, hqd, Conv.bytesToString, Result.andThen_ok, h1]
        rw [List.forIn_toArray, strPush_eq (P := P) (fun _ _ => rfl)]
        unfold strOf
        rfl
  · cases hx; exact ⟨_, _, .str _, .inl ⟨h, fun w' => by simp [convert, hT.underlying hi w', hT.underlying hj w', *]⟩⟩
  · rename_i kd kx n hd
    cases hx
    refine ⟨_, _, .int _ _, .inl ⟨h, fun w' => ?_⟩⟩
    simp [convert, hT.underlying hi w', hT.underlying hj w', hd, Conv.intToInt]
  · exact False.elim h

theorem quietP_here (hT : TabOk P T) (o : Oper) {μ : List Nat} {ts : List Value} {a : Act} {H : List Blk} {w : World} {i : Nat} {L : List Seen} {k : Value → List Seen → Prop} (h : quietP T H ts i o.op L k) (ho : o.op.operands.toList.all opOk = true) (hv : SRs μ ts a.tmps.toList) (hr : Rel μ H w) :
    ∃ v cv, VR μ v cv ∧ ((k v L ∧ ∀ w, (execOp a.eval o).run P w = .ok (.value cv) w) ∨
      ∃ (sn : Seen) (nm off b : Nat) (c l : List Value), isLoad o.op = true ∧ sn.i = i ∧ k v (sn :: L) ∧ SeenAs T sn nm off c ∧ μ[nm]? = some b ∧ VRs μ c l ∧ CellsAt b off l w ∧ ∀ w', CellsAt b off l w' → (execOp a.eval o).run P w' = .ok (.value cv) w') := by
  unfold quietP at h
  split at h
  · rename_i t x heq
    rw [heq] at ho
    simp only [Op.operands, List.all_cons, List.all_nil, Bool.and_true] at ho
    obtain ⟨p, hp, h⟩ := ev_iff h
    obtain ⟨nm, off, v, rfl, hk, hl⟩ := load_sound h
    obtain ⟨b, hb, hμ⟩ := (opV_sound hv ho hp).of_ptr
    obtain ⟨l, hvl, hc⟩ := hl.cells μ w b hr hμ
    obtain ⟨cv, hvr, hrun⟩ := ld_run (o := off) (b := b) hT hl hvl
    refine ⟨v, cv, hvr, .inr ⟨_, nm, off, b, _, l, by rw [heq]; rfl, rfl, hk, .inr ⟨rfl, rfl⟩, hμ, hvl, hc, fun w' hw' => ?_⟩⟩
    obtain ⟨dst, op, type, pos, after, guard⟩ := o
    simp only at heq
    subst heq
    simp [execOp, hb, Instr.loadAt, Instr.sureAddr, hrun w' hw']
  · rename_i s d x heq
    rw [heq] at ho
    simp only [Op.operands, List.all_cons, List.all_nil, Bool.and_true] at ho
    obtain ⟨vx, h, hx⟩ := ev_sound hv h ho
    have hrunO : ∀ cv w', (convert s d (a.eval x)).run P w' = .ok cv w' → (execOp a.eval o).run P w' = .ok (.value cv) w' := fun cv w' hw => by
      obtain ⟨dst, op, type, pos, after, guard⟩ := o
      simp only at heq
      subst heq
      simp [execOp, hw]
    obtain ⟨v, cv, hvr, hcase⟩ := convP_sound hT h hx hr
    refine ⟨v, cv, hvr, ?_⟩
    rcases hcase with ⟨hk, hrun⟩ | ⟨nm, off, n, m, b, c, l, rfl, hk, hμ, hcl, hc, hrun⟩
    · exact .inl ⟨hk, fun w' => hrunO _ _ (hrun w')⟩
    · exact .inr ⟨_, nm, off, b, c, l, by rw [heq]; rfl, rfl, hk, .inl ⟨n, m, rfl, rfl⟩, hμ, hcl, hc, fun w' hw' => hrunO _ _ (hrun w' hw')⟩
  · rename_i hnl _
    obtain ⟨v, cv, hk, hvr, hcase⟩ := quiet_here hT o h ho hv hr
    rcases hcase with ⟨_, hrun⟩ | ⟨t, x, i', off, b, l, hop, _⟩
    · exact ⟨v, cv, hvr, .inl ⟨hk, hrun⟩⟩
    · exact absurd hop (hnl t x)

/-! ### A plan -/
def isAlloc : Op → Bool
  | .alloc _ => true
  | _ => false

def liveAfter (ops : Array Oper) (ld : List Nat) (i : Nat) : List Nat := ld.filter fun x => !(waits ops 3 x i)

/-- All but those of which 'f' says so (and 'i') wait for one of which it does not. -/
def othersWait (ops : Array Oper) (f : Nat → Bool) (i : Nat) : Bool :=
  (List.range ops.size).all fun j => f j || j == i || match ops[j]? with
    | some o => o.after.toList.any fun e => Region.binds .any e && !(f e.on)
    | none => true
/-- Likewise; waiting for 'i' counts too. -/
def othersWaitFor (ops : Array Oper) (f : Nat → Bool) (i : Nat) : Bool :=
  (List.range ops.size).all fun j => f j || match ops[j]? with
    | some o => o.after.toList.any fun e => Region.binds .any e && (!(f e.on) || e.on == i)
    | none => true

def chk (ops : Array Oper) (al : List Nat) : Plan → Array Bool → List Nat → Bool
  | [], l, _ => (List.range ops.size).all fun j => l.getD j true
  | (i, ks) :: rest, l, ld => match ops[i]? with
    | none => false
    | some o =>
      (rdy ops l).contains i &&
      (al.all fun x => x == i || l.getD x true || match ops[x]? with | some ox => ox.apart ops o | none => false) &&
      chk ops al rest (l.setIfInBounds i true) (if isLoad o.op then i :: ld else if quietOp o.op || isAlloc o.op then ld else liveAfter ops ld i) &&
      match quietOp o.op with
      | true => Region.free .any ops l i
      | false => match isAlloc o.op with
        | true => o.guard.isNone && o.dst.isSome && othersWaitFor ops (fun j => l.getD j true || al.contains j) i
        | false => othersWait ops (fun j => l.getD j true || al.contains j) i && (liveAfter ops ld i).all fun x => ks.contains x

def allocsOf (ops : Array Oper) : List Nat := (List.range ops.size).filter fun i => match ops[i]? with | some o => isAlloc o.op | none => false

/-- The allocations of a region: no guards, known types, temporaries of their own. -/
def allocsOk (T : Tab) (ops : Array Oper) : Bool :=
  (allocsOf ops).all fun x => match ops[x]? with
    | some o => o.guard.isNone && o.dst.isSome && (match o.op with | .alloc e => (match T[e]? with | some (some _) => true | _ => false) | _ => false) &&
        (allocsOf ops).all fun y => y == x || match ops[y]? with | some o' => o'.dst != o.dst | none => true
    | none => false

def planOk (T : Tab) (ops : Array Oper) (p : Plan) : Bool :=
  Region.noSelect ops && allocsOk T ops && chk ops (allocsOf ops) p (Array.replicate ops.size false) []

end
end Go.Aw
end
section
/-
  A region that draws its order, by a plan: whatever order is drawn, it comes out as the plan does.
-/
set_option linter.unusedSectionVars false
namespace Go.Aw
variable [Base]
section
variable {P : Program} {T : Tab}

/-- Blocks that were laid ahead of the plan: the operation's number, the block. -/
abbrev Early := List (Nat × Nat)
def dstOf (ops : Array Oper) (x : Nat) : Option Tmp := (ops[x]?).bind (·.dst)

structure EarlyAct (ops : Array Oper) (A : Early) (ap ar : Act) : Prop where
  defers : ar.defers = ap.defers
  size : ar.tmps.size = ap.tmps.size
  other : ∀ s, (∀ x ∈ A, dstOf ops x.1 ≠ some s) → ar.tmps[s]? = ap.tmps[s]?
  own : ∀ x ∈ A, ∀ s, dstOf ops x.1 = some s → s < ap.tmps.size → ar.tmps[s]? = some (.pointer (some ⟨x.2, 0, none⟩))

structure EarlyL (A : Early) (l lr : Array Bool) : Prop where
  size : lr.size = l.size
  yes : ∀ (j b : Nat) (d : Bool), (j, b) ∈ A → lr.getD j d = true
  no : ∀ (j : Nat) (d : Bool), (∀ b, (j, b) ∉ A) → lr.getD j d = l.getD j d

/-- Operation 'o' has nothing to do with the early ones. -/
def Apart (ops : Array Oper) (A : Early) (o : Oper) : Prop := ∀ x ∈ A, ∃ ox, ops[x.1]? = some ox ∧ ox.apart ops o = true

theorem Apart.dst {ops : Array Oper} {A : Early} {o : Oper} (h : Apart ops A o) {x : Nat × Nat} (hx : x ∈ A) {s : Tmp} (hs : dstOf ops x.1 = some s) : s ∉ o.looksAt ops ∧ o.dst ≠ some s := by
  obtain ⟨ox, hox, hap⟩ := h x hx
  obtain ⟨h1, h2, h3⟩ := Oper.apart_spec hap
  have hd : ox.dst = some s := by simpa [dstOf, hox] using hs
  exact ⟨h1 s hd, h2 s hd⟩

theorem EarlyAct.eval {ops : Array Oper} {A : Early} {ap ar : Act} (h : EarlyAct ops A ap ar) {o : Oper} (ha : Apart ops A o) {x : Operand} (hx : x ∈ o.op.operands) : ar.eval x = ap.eval x := by
  cases x with
  | tmp t =>
    have : ar.tmps[t]? = ap.tmps[t]? := h.other t fun y hy hd => (ha.dst hy hd).1 (List.mem_append_left _ (List.mem_filterMap.2 ⟨.tmp t, by simpa using hx, rfl⟩))
    simp [Act.eval, this]
  | const v => rfl
  | global g => rfl
  | func f => rfl

theorem EarlyAct.exec {ops : Array Oper} {A : Early} {ap ar : Act} (h : EarlyAct ops A ap ar) {o : Oper} (ha : Apart ops A o) (hs : ∀ cs b, o.op ≠ .select cs b) : execOp ar.eval o = execOp ap.eval o :=
  execOp_congr o hs fun _ hx => h.eval ha hx

theorem EarlyAct.wanted {ops : Array Oper} {A : Early} {ap ar : Act} (h : EarlyAct ops A ap ar) {o : Oper} (ha : Apart ops A o) :
    Region.wanted o (yielded ops ar.tmps) = Region.wanted o (yielded ops ap.tmps) := by
  unfold Region.wanted
  cases hg : o.guard with
  | none => rfl
  | some g =>
    obtain ⟨j, want⟩ := g
    simp only
    have : yielded ops ar.tmps j = yielded ops ap.tmps j := by
      unfold yielded
      cases hd : (ops[j]?).bind (·.dst) with
      | none => rfl
      | some t =>
        have : ar.tmps[t]? = ap.tmps[t]? := h.other t fun y hy hd' => (ha.dst hy hd').1 (by
          unfold Oper.looksAt
          refine List.mem_append_right _ ?_
          simp [hg, hd])
        simp [this]
    rw [this]

theorem EarlyAct.put {ops : Array Oper} {A : Early} {ap ar : Act} (h : EarlyAct ops A ap ar) {o : Oper} (ha : Apart ops A o) (v : Value) : EarlyAct ops A (ap.put o.dst v) (ar.put o.dst v) := by
  cases hd : o.dst with
  | none => exact h
  | some d =>
    refine ⟨h.defers, by simpa [Act.put] using h.size, fun s hs => ?_, fun x hx s hs hl => ?_⟩
    · simp only [Act.put, Array.getElem?_setIfInBounds, h.size]
      split
      · rfl
      · exact h.other s hs
    · have hne : d ≠ s := fun e => (ha.dst hx hs).2 (by rw [hd, e])
      simp only [Act.put, Array.getElem?_setIfInBounds_ne hne]
      exact h.own x hx s hs (by simpa [Act.put] using hl)

/-- The plan comes to an operation that came early. -/
theorem EarlyAct.adopt {ops : Array Oper} {A : Early} {ap ar : Act} {i b : Nat} (h : EarlyAct ops ((i, b) :: A) ap ar) (hsep : ∀ x ∈ A, ∀ s, dstOf ops x.1 = some s → dstOf ops i ≠ some s) :
    EarlyAct ops A (ap.put (dstOf ops i) (.pointer (some ⟨b, 0, none⟩))) ar := by
  cases hd : dstOf ops i with
  | none =>
    refine ⟨h.defers, h.size, fun s hs => h.other s fun x hx => ?_, fun x hx s hs hl => h.own x (List.mem_cons_of_mem _ hx) s hs hl⟩
    rcases List.mem_cons.1 hx with rfl | hx
    · simp [hd]
    · exact hs x hx
  | some d =>
    refine ⟨h.defers, by simpa [Act.put] using h.size, fun s hs => ?_, fun x hx s hs hl => ?_⟩
    · simp only [Act.put, Array.getElem?_setIfInBounds]
      split
      · rename_i hds
        subst hds
        split
        · rename_i hlt; exact h.own (i, b) (List.mem_cons_self ..) d hd hlt
        · rename_i hge
          rw [Array.getElem?_eq_none]
          rw [h.size]; omega
      · rename_i hne
        refine h.other s fun x hx => ?_
        rcases List.mem_cons.1 hx with rfl | hx
        · rw [hd]; simpa using hne
        · exact hs x hx
    · have hne : d ≠ s := fun e => hsep x hx s hs (by rw [hd, e])
      exact h.own x (List.mem_cons_of_mem _ hx) s hs (by simpa [Act.put] using hl)

/-- One more comes early. -/
theorem EarlyAct.add {ops : Array Oper} {A : Early} {ap ar : Act} {i b : Nat} (h : EarlyAct ops A ap ar) (hsep : ∀ x ∈ A, ∀ s, dstOf ops x.1 = some s → dstOf ops i ≠ some s) :
    EarlyAct ops ((i, b) :: A) ap (ar.put (dstOf ops i) (.pointer (some ⟨b, 0, none⟩))) := by
  cases hd : dstOf ops i with
  | none =>
    refine ⟨h.defers, h.size, fun s hs => h.other s fun x hx => hs x (List.mem_cons_of_mem _ hx), fun x hx s hs hl => ?_⟩
    rcases List.mem_cons.1 hx with rfl | hx
    · rw [hd] at hs; cases hs
    · exact h.own x hx s hs hl
  | some d =>
    refine ⟨h.defers, by simpa [Act.put] using h.size, fun s hs => ?_, fun x hx s hs hl => ?_⟩
    · have hne : d ≠ s := fun e => hs (i, b) (List.mem_cons_self ..) (by rw [hd, e])
      simp only [Act.put, Array.getElem?_setIfInBounds_ne hne]
      exact h.other s fun x hx => hs x (List.mem_cons_of_mem _ hx)
    · rcases List.mem_cons.1 hx with rfl | hx
      · rw [hd] at hs; cases hs
        simp only [Act.put, Array.getElem?_setIfInBounds, h.size, if_true, hl]
      · have hne : d ≠ s := fun e => hsep x hx s hs (by rw [hd, e])
        simp only [Act.put, Array.getElem?_setIfInBounds_ne hne]
        exact h.own x hx s hs hl

theorem EarlyL.perm {A B : Early} {l lr : Array Bool} (h : EarlyL A l lr) (hp : ∀ x, x ∈ A ↔ x ∈ B) : EarlyL B l lr :=
  ⟨h.size, fun j b d hj => h.yes j b d ((hp _).2 hj), fun j d hj => h.no j d fun b hb => hj b ((hp _).1 hb)⟩
theorem EarlyAct.perm {ops : Array Oper} {A B : Early} {ap ar : Act} (h : EarlyAct ops A ap ar) (hp : ∀ x, x ∈ A ↔ x ∈ B) : EarlyAct ops B ap ar :=
  ⟨h.defers, h.size, fun s hs => h.other s fun x hx => hs x ((hp x).1 hx), fun x hx => h.own x ((hp x).2 hx)⟩

theorem set_true {l : Array Bool} {i j : Nat} {d : Bool} (h : l.getD j d = true) : (l.setIfInBounds i true).getD j d = true := by
  by_cases hij : i = j
  · subst hij
    simp only [Array.getD_eq_getD_getElem?, Array.getElem?_setIfInBounds, if_true] at h ⊢
    split
    · rfl
    · rename_i hn; rw [Array.getElem?_eq_none (by omega)] at h; exact h
  · rw [getD_set_ne d hij]; exact h
theorem set_self {l : Array Bool} {i : Nat} (d : Bool) (h : i < l.size) : (l.setIfInBounds i true).getD i d = true := by
  simp only [Array.getD_eq_getD_getElem?, Array.getElem?_setIfInBounds, if_true, h, Option.getD_some]

theorem EarlyL.set {A : Early} {l lr : Array Bool} (h : EarlyL A l lr) {i : Nat} (hi : i < l.size) : EarlyL A (l.setIfInBounds i true) (lr.setIfInBounds i true) := by
  refine ⟨by simp [h.size], fun j b d hj => set_true (h.yes j b d hj), fun j d hj => ?_⟩
  by_cases hij : i = j
  · subst hij; rw [set_self d hi, set_self d (by rw [h.size]; exact hi)]
  · rw [getD_set_ne d hij, getD_set_ne d hij]; exact h.no j d hj

theorem EarlyL.add {A : Early} {l lr : Array Bool} (h : EarlyL A l lr) {i : Nat} (b : Nat) (hi : i < l.size) : EarlyL ((i, b) :: A) l (lr.setIfInBounds i true) := by
  refine ⟨by simp [h.size], fun j b' d hj => ?_, fun j d hj => ?_⟩
  · rcases List.mem_cons.1 hj with e | hj
    · cases e; exact set_self d (by rw [h.size]; exact hi)
    · exact set_true (h.yes j b' d hj)
  · have hij : i ≠ j := fun e => hj b (by rw [e]; exact List.mem_cons_self ..)
    rw [getD_set_ne d hij]
    exact h.no j d fun b' hb => hj b' (List.mem_cons_of_mem _ hb)

theorem EarlyL.adopt {A : Early} {l lr : Array Bool} {i b : Nat} (h : EarlyL ((i, b) :: A) l lr) (hi : i < l.size) : EarlyL A (l.setIfInBounds i true) lr := by
  refine ⟨by simp [h.size], fun j b' d hj => h.yes j b' d (List.mem_cons_of_mem _ hj), fun j d hj => ?_⟩
  by_cases hij : i = j
  · subst hij; rw [set_self d hi]; exact h.yes i b d (List.mem_cons_self ..)
  · rw [getD_set_ne d hij]
    refine h.no j d fun b' hb => ?_
    rcases List.mem_cons.1 hb with e | hb
    · cases e; exact hij rfl
    · exact hj b' hb

/-- How many have not come up. -/
def left (N : Nat) (l : Array Bool) : Nat := ((List.range N).filter fun j => !(l.getD j true)).length

theorem filter_less {L : List Nat} (hn : L.Nodup) {p q : Nat → Bool} {i : Nat} (hi : i ∈ L) (hp : p i = true) (hq : ∀ j, q j = (p j && j != i)) : (L.filter q).length + 1 = (L.filter p).length := by
  induction L with
  | nil => cases hi
  | cons a L ih =>
    rw [List.nodup_cons] at hn
    rcases List.mem_cons.1 hi with rfl | hi
    · have hqi : q i = false := by rw [hq]; simp
      have hrest : L.filter q = L.filter p := List.filter_congr fun j hj => by
        rw [hq]
        have : j ≠ i := fun e => hn.1 (e ▸ hj)
        simp [this]
      rw [List.filter_cons_of_neg (by simp [hqi]), List.filter_cons_of_pos hp, hrest]; rfl
    · have hne : a ≠ i := fun e => hn.1 (e ▸ hi)
      have := ih hn.2 hi
      by_cases ha : p a = true
      · have hqa : q a = true := by rw [hq]; simp [ha, hne]
        rw [List.filter_cons_of_pos hqa, List.filter_cons_of_pos ha]; simp; exact this
      · have hqa : ¬ q a = true := by rw [hq]; simp [ha]
        rw [List.filter_cons_of_neg hqa, List.filter_cons_of_neg ha]; exact this

theorem left_set {N : Nat} {l : Array Bool} {i : Nat} (hi : i < N) (h : l.getD i true = false) (_hl : l.size = N) : left N (l.setIfInBounds i true) + 1 = left N l := by
  refine filter_less List.nodup_range (List.mem_range.2 hi) (by simp [h]) fun j => ?_
  by_cases hij : i = j
  · subst hij
    have : (l.setIfInBounds i true).getD i true = true := by
      simp only [Array.getD_eq_getD_getElem?, Array.getElem?_setIfInBounds, if_true]
      split <;> rfl
    simp [this]
  · rw [getD_set_ne true hij]
    have : (j != i) = true := by simpa using Ne.symm hij
    simp [this]

end
end Go.Aw
end
section
/-
  Whatever order a region draws, it comes out as its plan does.
-/
set_option linter.unusedSectionVars false
namespace Go.Aw
variable [Base]
section
variable {P : Program} {T : Tab}

/-- A load that was taken first, and the cells that it read. -/
structure Ent where
  i : Nat
  s : Seen
  n : Nat
  o : Nat
  b : Nat
  c : List Value
  l : List Value
def Ent.wish (e : Ent) : Wish := (e.i, CellsAt e.b e.o e.l)

structure LogOk (T : Tab) (μ : List Nat) (ld : List Nat) (L : List Seen) (G : List Ent) : Prop where
  place : ∀ e ∈ G, μ[e.n]? = some e.b
  cells : ∀ e ∈ G, VRs μ e.c e.l
  seen : ∀ e ∈ G, e.s ∈ L
  ld : ∀ e ∈ G, e.i ∈ ld
  sas : ∀ e ∈ G, SeenAs T e.s e.n e.o e.c
  si : ∀ e ∈ G, e.s.i = e.i

structure EarlyOk (T : Tab) (ops : Array Oper) (A : Early) (l : Array Bool) (μ : List Nat) (w0 w : World) : Prop where
  al : ∀ x ∈ A, x.1 ∈ allocsOf ops ∧ l.getD x.1 true = false
  zero : ∀ x ∈ A, ∃ o e i, ops[x.1]? = some o ∧ o.op = .alloc e ∧ T[e]? = some (some i) ∧ w.heap[x.2]? = some (.cells i.zero.toArray e (0, 0))
  new : ∀ x ∈ A, x.2 ∉ μ ∧ w0.heap.size ≤ x.2 ∧ Base.W.heap.size ≤ x.2
  one : ∀ x ∈ A, ∀ y ∈ A, x.1 = y.1 → x = y
  two : ∀ x ∈ A, ∀ y ∈ A, x.2 = y.2 → x = y

theorem mem_allocs {ops : Array Oper} {x : Nat} : x ∈ allocsOf ops ↔ x < ops.size ∧ ∃ o, ops[x]? = some o ∧ isAlloc o.op = true := by
  unfold allocsOf
  rw [List.mem_filter, List.mem_range]
  cases h : ops[x]? with
  | none => simp
  | some o => simp

theorem allocs_spec {ops : Array Oper} (h : allocsOk T ops = true) {x : Nat} (hx : x ∈ allocsOf ops) :
    ∃ o e i d, ops[x]? = some o ∧ o.op = .alloc e ∧ T[e]? = some (some i) ∧ o.guard = none ∧ o.dst = some d ∧ ∀ y ∈ allocsOf ops, y ≠ x → dstOf ops y ≠ some d := by
  have h1 := (List.all_eq_true.1 h) x hx
  cases ho : ops[x]? with
  | none => simp [ho] at h1
  | some o =>
    simp only [ho, Bool.and_eq_true, Option.isNone_iff_eq_none, List.all_eq_true, Bool.or_eq_true, beq_iff_eq] at h1
    obtain ⟨⟨⟨h2, h3⟩, h4⟩, h5⟩ := h1
    obtain ⟨d, hd⟩ := Option.isSome_iff_exists.1 h3
    cases hop : o.op with
    | alloc e =>
      simp only [hop] at h4
      split at h4
      · rename_i i hi
        refine ⟨o, e, i, d, rfl, hop, hi, h2, hd, fun y hy hne => ?_⟩
        rcases h5 y hy with e0 | h6
        · exact absurd e0 hne
        · unfold dstOf
          cases hy' : ops[y]? with
          | none => simp
          | some o' =>
            simp only [hy', hd, bne_iff_ne] at h6
            simpa using h6
      · cases h4
    | _ => simp [hop] at h4

theorem keep1_sound {H : List Blk} {s : Seen} {k : Unit → Prop} (h : keep1 T H s k) : k () ∧ ∀ (n o : Nat) (c : List Value), SeenAs T s n o c → ∀ (μ : List Nat) (w : World) (b : Nat), Rel μ H w → μ[n]? = some b → ∃ l', VRs μ c l' ∧ CellsAt b o l' w := by
  unfold keep1 at h
  split at h
  · rename_i b o n m heq
    obtain ⟨⟨l, ⟨c0, e0, hb, hc⟩, hv⟩, hk⟩ := h
    refine ⟨hk, fun n' o' c hs μ w cb hr hμ => ?_⟩
    rcases hs with ⟨len, cap, ha, hv'⟩ | ⟨ha, _⟩
    · rw [heq] at ha
      cases ha
      rw [hv'] at hv
      have : c = l.map fun n => Value.int .u8 n := by simpa using hv.symm
      subst this
      obtain ⟨c', hw, hcv⟩ := hr.blk _ cb c0 e0 hb hμ
      exact ⟨_, ints_flat _ _, fun j v hj => by rw [cell_of_row w cb _ _ e0 _ hw]; simpa using ints_of hcv hc j v hj⟩
    · rw [heq] at ha; cases ha
  · obtain ⟨n, o, v, ha, ⟨rfl, hk⟩, hl⟩ := load_sound h
    refine ⟨hk, fun n' o' c hs μ w cb hr hμ => ?_⟩
    rcases hs with ⟨len, cap, ha', _⟩ | ⟨ha', rfl⟩
    · rw [ha'] at ha; cases ha
    · rw [ha] at ha'; cases ha'
      exact hl.cells μ w cb hr hμ

theorem keep_sound {H : List Blk} {ks : List Nat} : ∀ {L : List Seen} {k : Unit → Prop}, keepF T H ks L k → k () ∧ ∀ s ∈ L, ks.any (Nat.beq s.i) = true → ∀ (n o : Nat) (c : List Value), SeenAs T s n o c → ∀ (μ : List Nat) (w : World) (b : Nat), Rel μ H w → μ[n]? = some b → ∃ l', VRs μ c l' ∧ CellsAt b o l' w
  | [], k, h => ⟨h, by simp⟩
  | s :: L, k, h => by
    unfold keepF at h
    cases hk : ks.any (Nat.beq s.i) with
    | true =>
      simp only [hk] at h
      obtain ⟨h, hl⟩ := keep1_sound h
      obtain ⟨h1, h2⟩ := keep_sound h
      refine ⟨h1, fun s' hs' hk' => ?_⟩
      rcases List.mem_cons.1 hs' with rfl | hs'
      · exact hl
      · exact h2 s' hs' hk'
    | false =>
      simp only [hk] at h
      obtain ⟨h1, h2⟩ := keep_sound h
      refine ⟨h1, fun s' hs' hk' => ?_⟩
      rcases List.mem_cons.1 hs' with rfl | hs'
      · rw [hk] at hk'; cases hk'
      · exact h2 s' hs' hk'

/-- A block that is there already, with just these cells, is given a name. -/
theorem Rel.adopt {μ : List Nat} {H : List Blk} {w : World} (h : Rel μ H w) {b : Nat} {c c' : List Value} {e : TypeId} (hw : w.heap[b]? = some (.cells c'.toArray e (0, 0))) (hn : b ∉ μ) (hgb : Base.W.heap.size ≤ b) (hc : VRs μ c c') : Rel (μ ++ [b]) (H ++ [.cells c e]) w := by
  have hmono : ∀ (i x : Nat), μ[i]? = some x → (μ ++ [b])[i]? = some x := fun i x hi => by
    rw [List.getElem?_append_left (List.getElem?_eq_some_iff.1 hi).1]; exact hi
  have hlast : (μ ++ [b])[μ.length]? = some b := by simp
  refine ⟨by simp [h.len], ?_, ?_, ?_, ?_, ⟨fun x hx => ?_, h.base.le, h.base.eq⟩⟩
  rotate_right
  · rcases List.mem_append.1 hx with hx | hx
    · exact h.base.hi x hx
    · simp at hx; subst hx; exact hgb
  · rw [List.nodup_append]
    refine ⟨h.nd, by simp, ?_⟩
    intro x hx y hy hxy
    simp at hy
    subst hy; subst hxy
    exact hn hx
  · intro x hx
    rcases List.mem_append.1 hx with hx | hx
    · exact h.lt x hx
    · simp at hx; subst hx; exact (Array.getElem?_eq_some_iff.1 hw).1
  · intro i x c1 e1 hH hμ
    by_cases hlt : i < H.length
    · rw [List.getElem?_append_left hlt] at hH
      rw [List.getElem?_append_left (by rw [← h.len]; exact hlt)] at hμ
      obtain ⟨c2, h2, hv⟩ := h.blk i x c1 e1 hH hμ
      exact ⟨c2, h2, hv.mono hmono⟩
    · have hi : i = H.length := by
        have := (List.getElem?_eq_some_iff.1 hH).1; simp at this; omega
      subst hi
      simp at hH
      rw [h.len, hlast] at hμ
      cases hμ
      obtain ⟨rfl, rfl⟩ := hH
      exact ⟨c', hw, hc.mono hmono⟩
  · intro i x f hH hμ o v hf
    by_cases hlt : i < H.length
    · rw [List.getElem?_append_left hlt] at hH
      rw [List.getElem?_append_left (by rw [← h.len]; exact hlt)] at hμ
      obtain ⟨v', h2, hv⟩ := h.rob i x f hH hμ o v hf
      exact ⟨v', h2, hv.mono hmono⟩
    · have hi : i = H.length := by
        have := (List.getElem?_eq_some_iff.1 hH).1; simp at this; omega
      subst hi
      simp at hH

theorem Ext.adopt {μ0 μ : List Nat} {H0 H : List Blk} {w0 w : World} (h : Ext μ0 H0 w0 μ H w) (hl0 : H0.length = μ0.length) (hl : H.length = μ.length) {b : Nat} {c : List Value} {e : TypeId} (hb : w0.heap.size ≤ b) : Ext μ0 H0 w0 (μ ++ [b]) (H ++ [.cells c e]) w := by
  obtain ⟨ext, rfl, hext⟩ := h.pre
  refine ⟨⟨ext ++ [b], by simp, fun x hx => ?_⟩, h.size, h.os, h.tape, h.output, h.same, fun i c1 e1 hi hc => ?_⟩
  · rcases List.mem_append.1 hx with hx | hx
    · exact hext x hx
    · simp at hx; omega
  · rw [List.getElem?_append_left (by simp at hl; omega)] at hc
    exact h.own i c1 e1 hi hc

/-- An untracked block is as it was. -/
theorem Ext.far {μ μ' : List Nat} {H H' : List Blk} {w w' : World} (h : Ext μ H w μ' H' w') {b : Nat} (hb : b < w.heap.size) (hn : b ∉ μ) : w'.heap[b]? = w.heap[b]? ∧ b ∉ μ' := by
  refine ⟨h.same b hb ?_, ?_⟩
  · rintro ⟨i, c, e, hi, _⟩; exact hn (List.mem_of_getElem? hi)
  · obtain ⟨ext, rfl, hext⟩ := h.pre
    intro hm
    rcases List.mem_append.1 hm with hm | hm
    · exact hn hm
    · have := hext b hm; omega

/-- A world one block larger. -/
theorem Rel.bigger {μ : List Nat} {H : List Blk} {w : World} (h : Rel μ H w) (o : Obj) : Rel μ H (w.alloc o) ∧ Ext μ H w μ H (w.alloc o) := by
  have hold : ∀ b, b < w.heap.size → (w.alloc o).heap[b]? = w.heap[b]? := fun b hb => heap_alloc_old w o b hb
  refine ⟨⟨h.len, h.nd, fun b hb => by have := h.lt b hb; simp; omega, fun i b c e hH hμ => ?_, fun i b f hH hμ off v hf => ?_, ⟨h.base.hi, by have := h.base.le; simp; omega, fun k hk => (hold k (Nat.lt_of_lt_of_le hk h.base.le)).trans (h.base.eq k hk)⟩⟩, ⟨⟨[], by simp, by simp⟩, by simp, rfl, rfl, rfl, fun b hb _ => hold b hb, fun i c e _ hc => ⟨c, e, hc⟩⟩⟩
  · obtain ⟨c', h2, hv⟩ := h.blk i b c e hH hμ
    exact ⟨c', by rw [hold b (h.lt b (List.mem_of_getElem? hμ))]; exact h2, hv⟩
  · obtain ⟨v', h2, hv⟩ := h.rob i b f hH hμ off v hf
    exact ⟨v', by rw [World.cell?_alloc_lt w _ _ (h.lt b (List.mem_of_getElem? hμ))]; exact h2, hv⟩

theorem CellsAt.alloc {b o : Nat} {l : List Value} {w : World} (h : CellsAt b o l w) (hb : b < w.heap.size) (x : Obj) : CellsAt b o l (w.alloc x) := fun j v hj => by
  rw [World.cell?_alloc_lt w _ _ hb]; exact h j v hj

structure St (P : Program) (T : Tab) (ops : Array Oper) (μ0 : List Nat) (H0 : List Blk) (w0 : World) (l : Array Bool) (ld : List Nat) (μ : List Nat) (ts : List Value) (H : List Blk) (ap : Act) (L : List Seen) (G : List Ent) (A : Early) (ar : Act) (lr : Array Bool) (w : World) : Prop where
  hl0 : H0.length = μ0.length
  vrs : SRs μ ts ap.tmps.toList
  rel : Rel μ H w
  ext : Ext μ0 H0 w0 μ H w
  defers : ap.defers = []
  act : EarlyAct ops A ap ar
  lst : EarlyL A l lr
  size : l.size = ops.size
  down : Down ops lr
  early : EarlyOk T ops A l μ w0 w
  log : LogOk T μ ld L G
  met : Met (G.map Ent.wish) w

variable {ops : Array Oper} {μ0 : List Nat} {H0 : List Blk} {w0 : World} {K : List Value → List Blk → Prop}

/-- An allocation comes early. -/
theorem St.step_alloc (hT : TabOk P T) (hal : allocsOk T ops = true) {l : Array Bool} {ld : List Nat} {μ : List Nat} {ts : List Value} {H : List Blk} {ap : Act} {L : List Seen} {G : List Ent} {A : Early} {ar : Act} {lr : Array Bool} {w : World}
    (s : St P T ops μ0 H0 w0 l ld μ ts H ap L G A ar lr w) {j : Nat} (hj : j ∈ rdy ops lr) (hja : j ∈ allocsOf ops) {n : Nat} {Q : Exit → Act → World → Prop}
    (ih : ∀ (G' : List Ent) (A' : Early) (ar' : Act) (w' : World), St P T ops μ0 H0 w0 l ld μ ts H ap L G' A' ar' (lr.setIfInBounds j true) w' → anyK P ops Q n (G'.map Ent.wish) (lr.setIfInBounds j true) ar' w') :
    wpOp P ops Q j (fun a' w' => Met (Wish.behind ops (G.map Ent.wish) j) w' ∧ anyK P ops Q n (Wish.behind ops (G.map Ent.wish) j) (lr.setIfInBounds j true) a' w') ar w := by
  obtain ⟨o, e, i, d, ho, hop, hi, hg, hd, hsep⟩ := allocs_spec hal hja
  have hjl : j < ops.size := (mem_allocs.1 hja).1
  have hun : lr.getD j true = false := (mem_ready.1 hj).1
  have hjA : ∀ b, (j, b) ∉ A := fun b hb => by rw [s.lst.yes j b true hb] at hun; cases hun
  have hjl0 : l.getD j true = false := by rw [← s.lst.no j true hjA]; exact hun
  have hdst : dstOf ops j = some d := by simp [dstOf, ho, hd]
  have hsepA : ∀ x ∈ A, ∀ t, dstOf ops x.1 = some t → dstOf ops j ≠ some t := fun x hx t ht e0 => by
    have hxj : x.1 ≠ j := fun e1 => hjA x.2 (by rw [← e1]; exact hx)
    refine hsep x.1 (s.early.al x hx).1 hxj ?_
    rw [ht, ← e0, hdst]
  have hrun : (execOp ar.eval o).run P w = .ok (.value (.pointer (some ⟨w.heap.size, 0, none⟩))) (w.alloc (.cells i.zero.toArray e)) := by
    simp [execOp, hop, alloc_run hT hi w]
  have hmap : Wish.behind ops (G.map Ent.wish) j = (G.filter fun e => !(waits ops 3 e.i j)).map Ent.wish := by
    unfold Wish.behind
    rw [List.filter_map]; rfl
  unfold wpOp
  simp only [ho]
  rw [if_pos (by simp [Region.wanted, hg])]
  left
  refine wp_value (ar := ar) rfl hrun ?_
  obtain ⟨hr', hx'⟩ := s.rel.bigger (.cells i.zero.toArray e)
  have hmet : Met (G.map Ent.wish) (w.alloc (.cells i.zero.toArray e)) := fun x hx => by
    obtain ⟨g, hg, rfl⟩ := List.mem_map.1 hx
    exact (s.met _ hx).alloc (s.rel.lt _ (List.mem_of_getElem? (s.log.place g hg))) _
  rw [hmap]
  refine ⟨fun x hx => hmet x ?_, ?_⟩
  · obtain ⟨g, hg, rfl⟩ := List.mem_map.1 hx
    exact List.mem_map.2 ⟨g, (List.mem_filter.1 hg).1, rfl⟩
  refine ih _ ((j, w.heap.size) :: A) _ _ ?_
  have hold : ∀ b, b < w.heap.size → (w.alloc (.cells i.zero.toArray e)).heap[b]? = w.heap[b]? := fun b hb => heap_alloc_old w _ b hb
  have hlt : ∀ x ∈ A, x.2 < w.heap.size := fun x hx => by
    obtain ⟨_, _, _, _, _, _, hb⟩ := s.early.zero x hx
    exact (Array.getElem?_eq_some_iff.1 hb).1
  refine ⟨s.hl0, s.vrs, hr', s.ext.trans s.hl0 s.rel.len hx', s.defers, ?_, s.lst.add _ (by rw [s.size]; exact hjl), s.size, s.down.set hj, ?_, ⟨fun e he => s.log.place e (List.mem_filter.1 he).1, fun e he => s.log.cells e (List.mem_filter.1 he).1, fun e he => s.log.seen e (List.mem_filter.1 he).1, fun e he => s.log.ld e (List.mem_filter.1 he).1, fun e he => s.log.sas e (List.mem_filter.1 he).1, fun e he => s.log.si e (List.mem_filter.1 he).1⟩, ?_⟩
  · have := s.act.add (i := j) (b := w.heap.size) hsepA
    rw [hd]
    rw [hdst] at this
    exact this
  · refine ⟨fun x hx => ?_, fun x hx => ?_, fun x hx => ?_, fun x hx y hy h => ?_, fun x hx y hy h => ?_⟩
    · rcases List.mem_cons.1 hx with rfl | hx
      · exact ⟨hja, hjl0⟩
      · exact s.early.al x hx
    · rcases List.mem_cons.1 hx with rfl | hx
      · exact ⟨o, e, i, ho, hop, hi, heap_alloc_new w _⟩
      · obtain ⟨o', e', i', h1, h2, h3, h4⟩ := s.early.zero x hx
        exact ⟨o', e', i', h1, h2, h3, by rw [hold _ (hlt x hx)]; exact h4⟩
    · rcases List.mem_cons.1 hx with rfl | hx
      · exact ⟨fun hm => Nat.lt_irrefl _ (s.rel.lt _ hm), s.ext.size, s.rel.base.le⟩
      · exact s.early.new x hx
    · rcases List.mem_cons.1 hx with rfl | hx <;> rcases List.mem_cons.1 hy with rfl | hy
      · rfl
      · exact absurd (show (j, y.2) ∈ A by rw [show j = y.1 from h]; exact hy) (hjA y.2)
      · exact absurd (show (j, x.2) ∈ A by rw [show j = x.1 from h.symm]; exact hx) (hjA x.2)
      · exact s.early.one x hx y hy h
    · rcases List.mem_cons.1 hx with rfl | hx <;> rcases List.mem_cons.1 hy with rfl | hy
      · rfl
      · have := hlt y hy; simp at h; omega
      · have := hlt x hx; simp at h; omega
      · exact s.early.two x hx y hy h
  · intro x hx
    obtain ⟨g, hg, rfl⟩ := List.mem_map.1 hx
    exact hmet _ (List.mem_map.2 ⟨g, (List.mem_filter.1 hg).1, rfl⟩)

theorem plan_sound (hT : TabOk P T) (hsel : Region.noSelect ops = true) (hal : allocsOk T ops = true) (hok : ∀ o ∈ ops.toList, o.op.operands.toList.all opOk = true) :
    ∀ (plan : Plan) (l : Array Bool) (ld : List Nat) (μ : List Nat) (ts : List Value) (H : List Blk) (ap : Act) (L : List Seen),
      chk ops (allocsOf ops) plan l ld = true → planF P T ops.toList plan L ts H K →
      ∀ (n : Nat) (G : List Ent) (A : Early) (ar : Act) (lr : Array Bool) (w : World), left ops.size lr ≤ n → St P T ops μ0 H0 w0 l ld μ ts H ap L G A ar lr w →
        anyK P ops (AtEnd (Out μ0 H0 w0 K)) n (G.map Ent.wish) lr ar w := by
  intro plan
  induction plan with
  | nil =>
    intro l ld μ ts H ap L hc h n G A ar lr w _ s
    have hall : ∀ j, j < ops.size → l.getD j true = true := fun j hj => (List.all_eq_true.1 hc) j (List.mem_range.2 hj)
    have hA : A = [] := by
      cases A with
      | nil => rfl
      | cons x A =>
        obtain ⟨h1, h2⟩ := s.early.al x (List.mem_cons_self ..)
        rw [hall x.1 (mem_allocs.1 h1).1] at h2; cases h2
    subst hA
    have hr : rdy ops lr = [] := by
      cases hr : rdy ops lr with
      | nil => rfl
      | cons j js =>
        have hj : j ∈ rdy ops lr := by rw [hr]; exact List.mem_cons_self ..
        obtain ⟨h1, o, ho, _⟩ := mem_ready.1 hj
        rw [s.lst.no j true (by simp), hall j (Array.getElem?_eq_some_iff.1 ho).1] at h1
        cases h1
    refine anyK_done hr ?_ n
    have htm : ar.tmps = ap.tmps := by
      apply Array.ext_getElem?
      intro i
      exact s.act.other i (by simp)
    exact ⟨μ, ts, H, by rw [htm]; exact s.vrs, s.rel, s.ext, s.act.defers.trans s.defers, h⟩
  | cons p rest ih =>
    obtain ⟨i, ks⟩ := p
    intro l ld μ ts H ap L hc h
    replace h := getF_iff h
    obtain ⟨o, ho', h⟩ := h
    have ho : ops[i]? = some o := by simpa using ho'
    have hoo : o.op.operands.toList.all opOk = true := hok o (List.mem_of_getElem? ho')
    have hil : i < ops.size := (Array.getElem?_eq_some_iff.1 ho).1
    simp only [chk, ho, Bool.and_eq_true] at hc
    obtain ⟨⟨⟨hrd, hap⟩, hrest⟩, hkind⟩ := hc
    have hrd : i ∈ rdy ops l := by simpa using hrd
    have hunl : l.getD i true = false := (mem_ready.1 hrd).1
    have hse : ∀ cs b, o.op ≠ .select cs b := fun cs b => Region.noSelect_spec hsel i o cs b ho
    have hapart : ∀ (A : Early) (w : World), EarlyOk T ops A l μ w0 w → (∀ b, (i, b) ∉ A) → Apart ops A o := fun A w he hn x hx => by
      obtain ⟨h1, h2⟩ := he.al x hx
      have h3 := (List.all_eq_true.1 hap) x.1 h1
      simp only [Bool.or_eq_true, beq_iff_eq, h2, Bool.false_eq_true, or_false] at h3
      rcases h3 with e | h3
      · exact absurd (show (i, x.2) ∈ A by rw [← e]; exact hx) (hn x.2)
      · cases hox : ops[x.1]? with
        | none => simp [hox] at h3
        | some ox => exact ⟨ox, rfl, by simpa [hox] using h3⟩
    have hready : ∀ {A : Early} {lr : Array Bool}, EarlyL A l lr → (∀ b, (i, b) ∉ A) → i ∈ rdy ops lr := fun {A lr} hl hn => by
      obtain ⟨h1, o', ho1, hall⟩ := mem_ready.1 hrd
      refine mem_ready.2 ⟨by rw [hl.no i true hn]; exact h1, o', ho1, fun e he hb => ?_⟩
      have := hall e he hb
      by_cases hA : ∃ b, (e.on, b) ∈ A
      · obtain ⟨b, hb⟩ := hA; exact hl.yes _ b false hb
      · rw [hl.no e.on false fun b hb => hA ⟨b, hb⟩]; exact this
    -- somebody can come up whenever the fuel is at its end
    have hzero : ∀ {A : Early} {lr : Array Bool}, EarlyL A l lr → (∀ b, (i, b) ∉ A) → lr.size = ops.size → ¬ left ops.size lr ≤ 0 := fun {A lr} hl hn hsz hle => by
      have hu : lr.getD i true = false := by rw [hl.no i true hn]; exact hunl
      have := left_set hil hu hsz
      omega
    cases hq : quietOp o.op with
    | true =>
      simp only [hq] at hkind h hrest
      have hna : ∀ (A : Early) (w : World), EarlyOk T ops A l μ w0 w → ∀ b, (i, b) ∉ A := fun A w he b hb => by
        obtain ⟨_, o1, ho1, ha1⟩ := mem_allocs.1 (he.al _ hb).1
        rw [ho] at ho1; cases ho1
        cases hop : o.op <;> simp [hop, isAlloc, quietOp] at ha1 hq
      intro n G A ar lr w hn s
      have hnA := hna A w s.early
      have hapA := hapart A w s.early hnA
      cases n with
      | zero => exact absurd hn (hzero s.lst hnA (by rw [s.lst.size, s.size]))
      | succ n =>
        have hir := hready s.lst hnA
        have hfree : Region.free .any ops lr i = true := by
          have hf0 := hkind
          unfold Region.free at hf0 ⊢
          simp only [ho, List.all_eq_true, List.mem_range, Bool.or_eq_true] at hf0 ⊢
          intro k hk
          rcases hf0 k hk with (h1 | h1) | h1
          · exact .inl (.inl h1)
          · refine .inl (.inr ?_)
            by_cases hA : ∃ b, (k, b) ∈ A
            · obtain ⟨b, hb⟩ := hA; exact s.lst.yes _ b true hb
            · rw [s.lst.no k true fun b hb => hA ⟨b, hb⟩]; exact h1
          · exact .inr h1
        have hleft : left ops.size (lr.setIfInBounds i true) ≤ n := by
          have := left_set hil (mem_ready.1 hir).1 (by rw [s.lst.size, s.size])
          omega
        have hearly' : EarlyOk T ops A (l.setIfInBounds i true) μ w0 w := ⟨fun x hx => ⟨(s.early.al x hx).1, by
            have hne : i ≠ x.1 := fun e => hnA x.2 (by rw [e]; exact hx)
            rw [getD_set_ne true hne]; exact (s.early.al x hx).2⟩, s.early.zero, s.early.new, s.early.one, s.early.two⟩
        have hwar := s.act.wanted hapA
        have hexec := s.act.exec hapA hse
        have hdefp : ∀ v, (ap.put o.dst v).defers = [] := fun v => by unfold Act.put; cases o.dst <;> exact s.defers
        rcases want_sound s.vrs h with ⟨hw, h⟩ | ⟨hw, h⟩
        · obtain ⟨v, cv, hvr, hcase⟩ := quietP_here hT o h hoo s.vrs s.rel
          rcases hcase with ⟨h, hrun⟩ | ⟨sn, nm, off, b, c, cl, hld, hsi, h, has, hμ, hcl, hcells, hrun⟩
          · obtain ⟨ts', h, hv'⟩ := put_sound s.vrs hvr h
            refine anyK_first (S := fun _ => True) (v := cv) ho hsel (fun c a w hq => hq) n _ lr ar w s.down hfree hir (.inl ⟨by rw [hwar]; exact hw, fun w' _ => by rw [hexec]; exact hrun w'⟩) trivial s.met ?_
            refine anyK_true i n (ih _ _ μ ts' H _ L hrest h n G A _ _ w hleft ⟨s.hl0, hv', s.rel, s.ext, hdefp cv, s.act.put hapA cv, s.lst.set (by rw [s.size]; exact hil), by simp [s.size], s.down.set hir, hearly', ?_, s.met⟩)
            refine ⟨s.log.place, s.log.cells, s.log.seen, fun e he => ?_, s.log.sas, s.log.si⟩
            split
            · exact List.mem_cons_of_mem _ (s.log.ld e he)
            · simp only [Bool.true_or, if_true]; exact s.log.ld e he
          · obtain ⟨ts', h, hv'⟩ := put_sound s.vrs hvr h
            refine anyK_first (S := CellsAt b off cl) (v := cv) ho hsel (fun c a w hq => hq) n _ lr ar w s.down hfree hir (.inl ⟨by rw [hwar]; exact hw, fun w' hw' => by rw [hexec]; exact hrun w' hw'⟩) hcells s.met ?_
            refine ih _ _ μ ts' H _ _ hrest h n (⟨i, sn, nm, off, b, c, cl⟩ :: G) A _ _ w hleft ⟨s.hl0, hv', s.rel, s.ext, hdefp cv, s.act.put hapA cv, s.lst.set (by rw [s.size]; exact hil), by simp [s.size], s.down.set hir, hearly', ?_, ?_⟩
            · simp only [hld, if_true]
              refine ⟨fun e he => ?_, fun e he => ?_, fun e he => ?_, fun e he => ?_, fun e he => ?_, fun e he => ?_⟩
              · rcases List.mem_cons.1 he with rfl | he
                · exact hμ
                · exact s.log.place e he
              · rcases List.mem_cons.1 he with rfl | he
                · exact hcl
                · exact s.log.cells e he
              · rcases List.mem_cons.1 he with rfl | he
                · exact List.mem_cons_self ..
                · exact List.mem_cons_of_mem _ (s.log.seen e he)
              · rcases List.mem_cons.1 he with rfl | he
                · exact List.mem_cons_self ..
                · exact List.mem_cons_of_mem _ (s.log.ld e he)
              · rcases List.mem_cons.1 he with rfl | he
                · exact has
                · exact s.log.sas e he
              · rcases List.mem_cons.1 he with rfl | he
                · exact hsi
                · exact s.log.si e he
            · intro x hx
              rcases List.mem_cons.1 hx with rfl | hx
              · exact hcells
              · exact s.met x hx
        · obtain ⟨ts', h, hv'⟩ := put_sound s.vrs VR.undef h
          refine anyK_first (S := fun _ => True) (v := undef) ho hsel (fun c a w hq => hq) n _ lr ar w s.down hfree hir (.inr ⟨by rw [hwar]; exact hw, rfl⟩) trivial s.met ?_
          refine anyK_true i n (ih _ _ μ ts' H _ L hrest h n G A _ _ w hleft ⟨s.hl0, hv', s.rel, s.ext, hdefp undef, s.act.put hapA undef, s.lst.set (by rw [s.size]; exact hil), by simp [s.size], s.down.set hir, hearly', ?_, s.met⟩)
          refine ⟨s.log.place, s.log.cells, s.log.seen, fun e he => ?_, s.log.sas, s.log.si⟩
          split
          · exact List.mem_cons_of_mem _ (s.log.ld e he)
          · simp only [Bool.true_or, if_true]; exact s.log.ld e he
    | false =>
      simp only [hq] at hkind h hrest
      have hnl : isLoad o.op = false := by cases hop : o.op <;> simp [hop, isLoad, quietOp] at hq ⊢
      simp only [hnl, Bool.false_eq_true, if_false, Bool.false_or] at hrest
      cases hia : isAlloc o.op with
      | true =>
        simp only [hia, if_true] at hkind hrest
        simp only [Bool.and_eq_true] at hkind
        obtain ⟨⟨hgn, hds⟩, hwait⟩ := hkind
        have hial : i ∈ allocsOf ops := mem_allocs.2 ⟨hil, o, ho, hia⟩
        obtain ⟨o', e, ti, d, ho1, hop, hti, hg, hd, hsep⟩ := allocs_spec hal hial
        rw [ho] at ho1; cases ho1
        have hdst : dstOf ops i = some d := by simp [dstOf, ho, hd]
        -- the abstract step
        have habs : ∃ ts', planF P T ops.toList rest L ts' (H ++ [.cells ti.zero e]) K ∧ ∀ (μ' : List Nat) (b : Nat) (a : Act), SRs μ' ts a.tmps.toList → μ'[H.length]? = some b → SRs μ' ts' (a.put o.dst (.pointer (some ⟨b, 0, none⟩))).tmps.toList := by
          unfold wantF at h
          rw [hg] at h
          rw [hop] at h
          replace h := tinfF_iff h
          obtain ⟨ti', hti', h⟩ := h
          rw [hti] at hti'; cases hti'
          have h := newF_nums h
          have h := (keep_sound h).1
          cases hdd : o.dst with
          | none => rw [hdd] at hd; cases hd
          | some d' =>
            rw [hdd] at h
            refine ⟨_, setF_iff h, fun μ' b a hv hb => ?_⟩
            simpa [Act.put] using hv.set d' (.ptr _ _ _ hb)
        obtain ⟨ts', habs, hvput⟩ := habs
        have adopt : ∀ (n : Nat) (G : List Ent) (A : Early) (ar : Act) (lr : Array Bool) (w : World) (b : Nat), left ops.size lr ≤ n → St P T ops μ0 H0 w0 l ld μ ts H ap L G A ar lr w → (i, b) ∈ A →
            anyK P ops (AtEnd (Out μ0 H0 w0 K)) n (G.map Ent.wish) lr ar w := fun n G A ar lr w b hn s hA => by
          have hperm : ∀ x, x ∈ A ↔ x ∈ (i, b) :: A.filter (fun x => x.1 != i) := fun x => by
            constructor
            · intro hx
              by_cases hxi : x.1 = i
              · rw [s.early.one x hx (i, b) hA hxi]; exact List.mem_cons_self ..
              · exact List.mem_cons_of_mem _ (List.mem_filter.2 ⟨hx, by simpa using hxi⟩)
            · intro hx
              rcases List.mem_cons.1 hx with rfl | hx
              · exact hA
              · exact (List.mem_filter.1 hx).1
          have hin : ∀ {x}, x ∈ A.filter (fun x => x.1 != i) → x ∈ A ∧ x.1 ≠ i := fun {x} hx => ⟨(List.mem_filter.1 hx).1, by simpa using (List.mem_filter.1 hx).2⟩
          obtain ⟨o1, e1, ti1, h1, h2, h3, hz⟩ := s.early.zero _ hA
          rw [ho] at h1; cases h1
          rw [hop] at h2; cases h2
          rw [hti] at h3; cases h3
          obtain ⟨hnb, hge, hgb⟩ := s.early.new _ hA
          have hrel := s.rel.adopt hz hnb hgb (hT.zero e ti hti μ)
          have hlast : (μ ++ [b])[H.length]? = some b := by rw [s.rel.len]; simp
          have hsub : ∀ (k x : Nat), μ[k]? = some x → (μ ++ [b])[k]? = some x := fun k x hk => by
            rw [List.getElem?_append_left (List.getElem?_eq_some_iff.1 hk).1]; exact hk
          have hv' := hvput (μ ++ [b]) b ap (s.vrs.mono hsub) hlast
          have hact := (s.act.perm hperm).adopt (fun x hx t ht e0 => hsep x.1 (s.early.al x (hin hx).1).1 (hin hx).2 (by rw [ht, ← e0, hdst]))
          rw [hdst, ← hd] at hact
          refine ih _ _ (μ ++ [b]) ts' _ _ L hrest habs n G (A.filter fun x => x.1 != i) ar lr w hn ⟨s.hl0, hv', hrel, s.ext.adopt s.hl0 s.rel.len hge, ?_, hact, (s.lst.perm hperm).adopt (by rw [s.size]; exact hil), by simp [s.size], s.down, ?_, ⟨fun e he => hsub _ _ (s.log.place e he), fun e he => (s.log.cells e he).mono hsub, s.log.seen, s.log.ld, s.log.sas, s.log.si⟩, s.met⟩
          · unfold Act.put; cases o.dst <;> exact s.defers
          · refine ⟨fun x hx => ⟨(s.early.al x (hin hx).1).1, ?_⟩, fun x hx => s.early.zero x (hin hx).1, fun x hx => ⟨?_, (s.early.new x (hin hx).1).2⟩, fun x hx y hy => s.early.one x (hin hx).1 y (hin hy).1, fun x hx y hy => s.early.two x (hin hx).1 y (hin hy).1⟩
            · rw [getD_set_ne true (Ne.symm (hin hx).2)]; exact (s.early.al x (hin hx).1).2
            · intro hm
              rcases List.mem_append.1 hm with hm | hm
              · exact (s.early.new x (hin hx).1).1 hm
              · simp at hm
                have := s.early.two x (hin hx).1 (i, b) hA hm
                exact (hin hx).2 (by rw [this])
        intro n
        induction n with
        | zero =>
          intro G A ar lr w hn s
          by_cases hA : ∃ b, (i, b) ∈ A
          · obtain ⟨b, hb⟩ := hA; exact adopt 0 G A ar lr w b hn s hb
          · exact absurd hn (hzero s.lst (fun b hb => hA ⟨b, hb⟩) (by rw [s.lst.size, s.size]))
        | succ n ihn =>
          intro G A ar lr w hn s
          by_cases hA : ∃ b, (i, b) ∈ A
          · obtain ⟨b, hb⟩ := hA; exact adopt (n + 1) G A ar lr w b hn s hb
          · have hnA : ∀ b, (i, b) ∉ A := fun b hb => hA ⟨b, hb⟩
            have hir := hready s.lst hnA
            refine ⟨fun h0 => (by rw [h0] at hir; cases hir), fun j hj => ?_⟩
            obtain ⟨hju, oj, hoj, hjall⟩ := mem_ready.1 hj
            have hjl : j < ops.size := (Array.getElem?_eq_some_iff.1 hoj).1
            have hjA : ∀ b, (j, b) ∉ A := fun b hb => by rw [s.lst.yes j b true hb] at hju; cases hju
            have hja : j ∈ allocsOf ops := by
              have h1 := (List.all_eq_true.1 hwait) j (List.mem_range.2 hjl)
              simp only [hoj, Bool.or_eq_true, List.any_eq_true, Bool.and_eq_true, Bool.not_eq_true', beq_iff_eq] at h1
              rcases h1 with (h1 | h1) | ⟨e1, he1, hb1, h1⟩
              · rw [s.lst.no j true hjA, h1] at hju; cases hju
              · simpa using h1
              · exfalso
                have hl1 := hjall e1 (Array.mem_toList_iff.1 he1) hb1
                rcases h1 with h1 | h1
                · simp only [Bool.or_eq_false_iff] at h1
                  have hn1 : ∀ b, (e1.on, b) ∉ A := fun b hb => by
                    have := (s.early.al _ hb).1
                    have h2 := h1.2
                    simp at h2
                    exact h2 this
                  rw [s.lst.no e1.on false hn1, getD_two h1.1] at hl1; cases hl1
                · rw [h1, s.lst.no i false hnA, getD_two hunl] at hl1; cases hl1
            refine s.step_alloc hT hal hj hja fun G' A' ar' w' s' => ihn G' A' ar' _ w' ?_ s'
            have := left_set hjl hju (by rw [s.lst.size, s.size])
            omega
      | false =>
        simp only [hia, Bool.false_eq_true, if_false] at hkind hrest
        simp only [Bool.and_eq_true] at hkind
        obtain ⟨hwait, hks⟩ := hkind
        have hna : ∀ (A : Early) (w : World), EarlyOk T ops A l μ w0 w → ∀ b, (i, b) ∉ A := fun A w he b hb => by
          obtain ⟨_, o1, ho1, ha1⟩ := mem_allocs.1 (he.al _ hb).1
          rw [ho] at ho1; cases ho1
          rw [hia] at ha1; cases ha1
        intro n
        induction n with
        | zero =>
          intro G A ar lr w hn s
          exact absurd hn (hzero s.lst (hna A w s.early) (by rw [s.lst.size, s.size]))
        | succ n ihn =>
          intro G A ar lr w hn s
          have hnA := hna A w s.early
          have hapA := hapart A w s.early hnA
          have hir := hready s.lst hnA
          refine ⟨fun h0 => (by rw [h0] at hir; cases hir), fun j hj => ?_⟩
          obtain ⟨hju, oj, hoj, hjall⟩ := mem_ready.1 hj
          have hjl : j < ops.size := (Array.getElem?_eq_some_iff.1 hoj).1
          have hjA : ∀ b, (j, b) ∉ A := fun b hb => by rw [s.lst.yes j b true hb] at hju; cases hju
          have hleft : left ops.size (lr.setIfInBounds j true) ≤ n := by
            have := left_set hjl hju (by rw [s.lst.size, s.size])
            omega
          have hcases : j = i ∨ j ∈ allocsOf ops := by
            have h1 := (List.all_eq_true.1 hwait) j (List.mem_range.2 hjl)
            simp only [hoj, Bool.or_eq_true, List.any_eq_true, Bool.and_eq_true, Bool.not_eq_true', beq_iff_eq] at h1
            rcases h1 with ((h1 | h1) | h1) | ⟨e1, he1, hb1, h1⟩
            · rw [s.lst.no j true hjA, h1] at hju; cases hju
            · right; simpa using h1
            · left; exact h1
            · exfalso
              have hl1 := hjall e1 (Array.mem_toList_iff.1 he1) hb1
              simp only [Bool.or_eq_false_iff] at h1
              have hn1 : ∀ b, (e1.on, b) ∉ A := fun b hb => by
                have := (s.early.al _ hb).1
                have h2 := h1.2
                simp at h2
                exact h2 this
              rw [s.lst.no e1.on false hn1, getD_two h1.1] at hl1; cases hl1
          by_cases hji : j = i
          · subst hji
            have hmap : Wish.behind ops (G.map Ent.wish) j = (G.filter fun e => !(waits ops 3 e.i j)).map Ent.wish := by
              unfold Wish.behind
              rw [List.filter_map]; rfl
            rw [hmap]
            have hexec := s.act.exec hapA hse
            have hwar := s.act.wanted hapA
            have hearly' : ∀ (μ' : List Nat) (H' : List Blk) (w' : World), Ext μ H w μ' H' w' → EarlyOk T ops A (l.setIfInBounds j true) μ' w0 w' := fun μ' H' w' hx => by
              have hlt : ∀ x ∈ A, x.2 < w.heap.size := fun x hx => by
                obtain ⟨_, _, _, _, _, _, hb⟩ := s.early.zero x hx
                exact (Array.getElem?_eq_some_iff.1 hb).1
              refine ⟨fun x hx => ⟨(s.early.al x hx).1, ?_⟩, fun x hx' => ?_, fun x hx' => ⟨(hx.far (hlt x hx') (s.early.new x hx').1).2, (s.early.new x hx').2⟩, s.early.one, s.early.two⟩
              · have hne : j ≠ x.1 := fun e => hnA x.2 (by rw [e]; exact hx)
                rw [getD_set_ne true hne]; exact (s.early.al x hx).2
              · obtain ⟨o', e', i', h1, h2, h3, h4⟩ := s.early.zero x hx'
                exact ⟨o', e', i', h1, h2, h3, by rw [(hx.far (hlt x hx') (s.early.new x hx').1).1]; exact h4⟩
            have hfl : ∀ e ∈ G.filter (fun e => !(waits ops 3 e.i j)), e ∈ G ∧ e.i ∈ liveAfter ops ld j := fun e he => by
              obtain ⟨h1, h2⟩ := List.mem_filter.1 he
              exact ⟨h1, List.mem_filter.2 ⟨s.log.ld e h1, h2⟩⟩
            unfold wpOp
            simp only [ho]
            rcases want_sound s.vrs h with ⟨hw, h⟩ | ⟨hw, h⟩
            · rw [if_pos (by rw [hwar]; exact hw)]
              left
              refine effect_sound hT o (ar := ar) hexec h hoo s.vrs s.rel ?_
              intro v cv μ' H' w' hvr hr' hx' h
              obtain ⟨h, hkeep⟩ := keep_sound h
              obtain ⟨ts', h, hv'⟩ := put_sound (s.vrs.mono hx'.sub) hvr h
              have hmet : Met ((G.filter fun e => !(waits ops 3 e.i j)).map Ent.wish) w' := fun x hx => by
                obtain ⟨g, hg, rfl⟩ := List.mem_map.1 hx
                obtain ⟨hgG, hgl⟩ := hfl g hg
                have hgk : ks.any (Nat.beq g.s.i) = true := by
                  have h1 := (List.all_eq_true.1 hks) g.i hgl
                  have h2 : g.i ∈ ks := by simpa using h1
                  exact List.any_eq_true.2 ⟨g.i, h2, by simp [s.log.si g hgG]⟩
                obtain ⟨cl, hcl, hcells⟩ := hkeep g.s (s.log.seen g hgG) hgk g.n g.o g.c (s.log.sas g hgG) μ' w' g.b hr' (hx'.sub _ _ (s.log.place g hgG))
                have := hcl.functional ((s.log.cells g hgG).mono hx'.sub)
                subst this
                simpa [Ent.wish] using hcells
              refine ⟨hmet, ih _ _ μ' ts' H' (ap.put o.dst cv) L hrest h n _ A _ _ w' hleft ⟨s.hl0, hv', hr', s.ext.trans s.hl0 s.rel.len hx', ?_, s.act.put hapA cv, s.lst.set (by rw [s.size]; exact hil), by simp [s.size], s.down.set hir, hearly' μ' H' w' hx', ⟨fun e he => hx'.sub _ _ (s.log.place e (hfl e he).1), fun e he => (s.log.cells e (hfl e he).1).mono hx'.sub, fun e he => s.log.seen e (hfl e he).1, fun e he => (hfl e he).2, fun e he => s.log.sas e (hfl e he).1, fun e he => s.log.si e (hfl e he).1⟩, hmet⟩⟩
              unfold Act.put; cases o.dst <;> exact s.defers
            · rw [if_neg (by rw [hwar]; simp [hw])]
              obtain ⟨ts', h, hv'⟩ := put_sound s.vrs VR.undef h
              have hmet : Met ((G.filter fun e => !(waits ops 3 e.i j)).map Ent.wish) w := fun x hx => by
                obtain ⟨g, hg, rfl⟩ := List.mem_map.1 hx
                exact s.met _ (List.mem_map.2 ⟨g, (hfl g hg).1, rfl⟩)
              refine ⟨hmet, ih _ _ μ ts' H (ap.put o.dst undef) L hrest h n _ A _ _ w hleft ⟨s.hl0, hv', s.rel, s.ext, ?_, s.act.put hapA undef, s.lst.set (by rw [s.size]; exact hil), by simp [s.size], s.down.set hir, hearly' μ H w (Ext.refl _ _ _), ⟨fun e he => s.log.place e (hfl e he).1, fun e he => s.log.cells e (hfl e he).1, fun e he => s.log.seen e (hfl e he).1, fun e he => (hfl e he).2, fun e he => s.log.sas e (hfl e he).1, fun e he => s.log.si e (hfl e he).1⟩, hmet⟩⟩
              unfold Act.put; cases o.dst <;> exact s.defers
          · exact s.step_alloc hT hal hj (hcases.resolve_left hji) fun G' A' ar' w' s' => ihn G' A' ar' _ w' hleft s'

/-- A region that draws its order. -/
theorem region_draw (hT : TabOk P T) {p : Plan} (hp : planOk T ops p = true) (hok : ∀ o ∈ ops.toList, o.op.operands.toList.all opOk = true) {id : Nat} {μ : List Nat} {ts : List Value} {H : List Blk} {a : Act} {w : World}
    (h : planF P T ops.toList p [] ts H K) (hv : SRs μ ts a.tmps.toList) (hr : Rel μ H w) (hd : a.defers = []) : (Code.region id ops true).wp P (AtEnd (Out μ H w K)) a w := by
  simp only [planOk, Bool.and_eq_true] at hp
  obtain ⟨⟨hsel, hal⟩, hc⟩ := hp
  refine wp_region_any hT.mixed (any_of_anyK _ [] _ _ _ ?_)
  have hrep : ∀ j d, j < ops.size → (Array.replicate ops.size false).getD j d = false := fun j d hj => by simp [hj]
  have hx0 : Ext μ H w μ H w.drew := (Ext.refl _ _ _).drew
  refine plan_sound (μ0 := μ) (H0 := H) (w0 := w) hT hsel hal hok p _ [] μ ts H a [] hc h ops.size [] [] a _ w.drew ?_ ⟨hr.len, hv, hr.drew, hx0, hd, ⟨rfl, rfl, fun _ _ => rfl, by simp⟩, ⟨rfl, by simp, fun _ _ _ => rfl⟩, by simp, Down.none _, ⟨by simp, by simp, by simp, by simp, by simp⟩, ⟨by simp, by simp, by simp, by simp, by simp, by simp⟩, by intro x hx; simp at hx⟩
  have : left ops.size (Array.replicate ops.size false) ≤ (List.range ops.size).length := List.length_filter_le _ _
  simpa using this

end
end Go.Aw
end
section
/-
  Code, whole; functions; contracts used in a larger heap.
-/
set_option linter.unusedSectionVars false
namespace Go.Aw
variable [Base]
section
variable {P : Program} {T : Tab}

def lookupH : Hints → Nat → Option Plan
  | [], _ => none
  | (j, p) :: hs, i => match Nat.beq j i with | true => some p | false => lookupH hs i

theorem hint_iff {hs : Hints} {i : Nat} {k : Plan → Prop} (h : hintF hs i k) : ∃ p, lookupH hs i = some p ∧ k p := by
  induction hs with
  | nil => exact False.elim h
  | cons x hs ih =>
    obtain ⟨j, p⟩ := x
    unfold hintF at h
    unfold lookupH
    cases hb : Nat.beq j i with
    | true => simp only [hb] at h; exact ⟨p, rfl, h⟩
    | false => simp only [hb] at h; exact ih h

def opsOk (ops : Array Oper) : Bool := ops.toList.all fun o => o.op.operands.toList.all opOk

/-- What is asked of a function's code, once and for all. -/
def codeOk (T : Tab) (hs : Hints) : Code → Bool
  | .skip => true
  | .region _ ops false => opsOk ops
  | .region id ops true => opsOk ops && match lookupH hs id with | some p => planOk T ops p | none => false
  | .seq a b => codeOk T hs a && codeOk T hs b
  | .cond c a b => opOk c && codeOk T hs a && codeOk T hs b
  | .block _ c => codeOk T hs c
  | .loop c => codeOk T hs c
  | .exit _ => true
  | .ret => true
  | _ => false

/-- Where code comes out. -/
def OutX (μ0 : List Nat) (H0 : List Blk) (w0 : World) (K : AK) : Exit → Act → World → Prop
  | .normal, a, w => Out μ0 H0 w0 (K .normal) a w
  | .exit id, a, w => Out μ0 H0 w0 (K (.exit id)) a w
  | .ret, a, w => Out μ0 H0 w0 (K .ret) a w
  | _, _, _ => False

theorem Out.mono {μ0 : List Nat} {H0 : List Blk} {w0 : World} {k k' : List Value → List Blk → Prop} (hk : ∀ ts H, k ts H → k' ts H) {a : Act} {w : World} (h : Out μ0 H0 w0 k a w) : Out μ0 H0 w0 k' a w := by
  obtain ⟨μ, ts, H, h1, h2, h3, h4, h5⟩ := h
  exact ⟨μ, ts, H, h1, h2, h3, h4, hk _ _ h5⟩

theorem Out.trans {μ0 μ1 : List Nat} {H0 H1 : List Blk} {w0 w1 : World} (hl0 : H0.length = μ0.length) (hl1 : H1.length = μ1.length) (hx : Ext μ0 H0 w0 μ1 H1 w1) {k : List Value → List Blk → Prop} {a : Act} {w : World} (h : Out μ1 H1 w1 k a w) : Out μ0 H0 w0 k a w := by
  obtain ⟨μ, ts, H, h1, h2, h3, h4, h5⟩ := h
  exact ⟨μ, ts, H, h1, h2, hx.trans hl0 hl1 h3, h4, h5⟩

theorem OutX.trans {μ0 μ1 : List Nat} {H0 H1 : List Blk} {w0 w1 : World} (hl0 : H0.length = μ0.length) (hl1 : H1.length = μ1.length) (hx : Ext μ0 H0 w0 μ1 H1 w1) {K : AK} (e : Exit) (a : Act) (w : World) (h : OutX μ1 H1 w1 K e a w) : OutX μ0 H0 w0 K e a w := by
  cases e <;> first | exact Out.trans hl0 hl1 hx h | exact h

theorem of_atEnd {μ0 : List Nat} {H0 : List Blk} {w0 : World} {K : AK} (e : Exit) (a : Act) (w : World) (h : AtEnd (Out μ0 H0 w0 (K .normal)) e a w) : OutX μ0 H0 w0 K e a w := by
  cases e <;> first | exact h | exact False.elim h

theorem blt_lt {i n : Nat} (h : Nat.blt i n = true) : i < n := by
  have h1 : i + 1 ≤ n := by simpa [Nat.blt] using h
  omega

theorem VR.cut {μ ν : List Nat} {n : Nat} (hs : ∀ i b, i < n → μ[i]? = some b → ν[i]? = some b) : ∀ (d : Nat) (v cv : Value), bdv d n v = true → VR μ v cv → VR ν v cv
  | 0, _, _, h, _ => by simp [bdv] at h
  | d + 1, v, cv, h, hr => by
    have all : ∀ (c c' : Array Value), c.toList.all (bdv d n) = true → (∀ (i : Nat) (x y : Value), c[i]? = some x → c'[i]? = some y → VR μ x y) → ∀ (i : Nat) (x y : Value), c[i]? = some x → c'[i]? = some y → VR ν x y := fun c c' hc hr i x y hx hy =>
      VR.cut hs d x y ((List.all_eq_true.1 hc) x (Array.mem_toList_iff.2 (Array.mem_of_getElem? hx))) (hr i x y hx hy)
    cases hr with
    | bool b => exact .bool b
    | int k m => exact .int k m
    | str s => exact .str s
    | ptrN => exact .ptrN
    | ptr i b o hi => exact .ptr i b o (hs i b (blt_lt h) hi)
    | slN l c => exact .slN l c
    | sl i b o l c hi => exact .sl i b o l c (hs i b (blt_lt h) hi)
    | fn f a a' c c' ha hc ra rc =>
      simp only [bdv, Bool.and_eq_true] at h
      exact .fn f a a' c c' ha hc (all a a' h.1 ra) (all c c' h.2 rc)
    | nilF => exact .nilF
    | nilI => exact .nilI
    | ifc t v v' hv => exact .ifc t v v' (VR.cut hs d v v' (by simpa [bdv] using h) hv)
    | agg c c' hc rc => exact .agg c c' hc (all c c' (by simpa [bdv] using h) rc)
    | tup c c' hc rc => exact .tup c c' hc (all c c' (by simpa [bdv] using h) rc)


theorem fadeS_iff {n : Nat} : ∀ {l m : List Value}, fadeS n l m → l.length = m.length ∧ ∀ (i : Nat) (w : Value), m[i]? = some w → w = junk ∨ (l[i]? = some w ∧ bdv 6 n w = true)
  | [], [], _ => ⟨rfl, by simp⟩
  | [], _ :: _, h => by simp [fadeS] at h
  | _ :: _, [], h => by simp [fadeS] at h
  | v :: l, w :: m, h => by
    unfold fadeS at h
    split at h
    · rename_i heq; simp at heq
    · rename_i heq heq2
      cases heq; cases heq2
      obtain ⟨h1, h2⟩ := fadeS_iff h
      refine ⟨by simp [h1], fun i w hi => ?_⟩
      cases i with
      | zero => simp at hi; exact .inl hi.symm
      | succ i => simpa using h2 i w (by simpa using hi)
    · rename_i heq heq2
      cases heq; cases heq2
      obtain ⟨hb, rfl, h⟩ := h
      obtain ⟨h1, h2⟩ := fadeS_iff h
      refine ⟨by simp [h1], fun i w hi => ?_⟩
      cases i with
      | zero => simp at hi; subst hi; exact .inr ⟨rfl, hb⟩
      | succ i => simpa using h2 i w (by simpa using hi)
    · exact False.elim h

theorem fadeH_iff {n : Nat} : ∀ {H2 H0 H : List Blk}, fadeH n H0 H H2 → H2.length ≤ H.length ∧ ∀ (i : Nat) (b : Blk), H2[i]? = some b → (∃ c e, b = .cells c e ∧ H[i]? = some b ∧ c.all (bdv 6 n) = true) ∨ (∃ f, b = .ro f ∧ H[i]? = some b ∧ H0[i]? = some b) ∨ b = .gone
  | [], _, _, _ => ⟨by simp, by simp⟩
  | b2 :: H2, H0, H, h => by
    cases H with
    | nil => cases H0 <;> cases b2 <;> simp [fadeH] at h
    | cons b H =>
      cases b2 with
      | cells c e =>
        have h' : c.all (bdv 6 n) = true ∧ b = .cells c e ∧ fadeH n H0.tail H H2 := by cases H0 <;> simpa [fadeH] using h
        clear h
        obtain ⟨h1, rfl, h9⟩ := h'
        obtain ⟨h2, h3⟩ := fadeH_iff h9
        refine ⟨by simp; omega, fun i b hi => ?_⟩
        cases i with
        | zero => simp at hi; subst hi; exact .inl ⟨c, e, rfl, rfl, h1⟩
        | succ i =>
          have := h3 i b (by simpa using hi)
          cases H0 with
          | nil => simpa using this
          | cons x H0 => simpa using this
      | ro f =>
        cases H0 with
        | nil => simp [fadeH] at h
        | cons x H0 =>
          obtain ⟨rfl, rfl, h⟩ := h
          obtain ⟨h2, h3⟩ := fadeH_iff h
          refine ⟨by simp; omega, fun i b hi => ?_⟩
          cases i with
          | zero => simp at hi; subst hi; exact .inr (.inl ⟨f, rfl, rfl, rfl⟩)
          | succ i => simpa using h3 i b (by simpa using hi)
      | gone =>
        have h' : fadeH n H0.tail H H2 := by cases H0 <;> simpa [fadeH] using h
        obtain ⟨h2, h3⟩ := fadeH_iff h'
        refine ⟨by simp; omega, fun i b hi => ?_⟩
        cases i with
        | zero => simp at hi; exact .inr (.inr hi.symm)
        | succ i =>
          have := h3 i b (by simpa using hi)
          cases H0 with
          | nil => simpa using this
          | cons x H0 => simpa using this

/-- What is forgotten. -/
theorem fade_sound {μ0 : List Nat} {H0 : List Blk} {w0 : World} (hr0 : Rel μ0 H0 w0) {μ : List Nat} {ts tmps : List Value} {H : List Blk} {w : World} {ts2 : List Value} {H2 : List Blk} (hv : SRs μ ts tmps) (hr : Rel μ H w) (hx : Ext μ0 H0 w0 μ H w) (hf : Fade H0 ts H ts2 H2) :
    ∃ μ2, SRs μ2 ts2 tmps ∧ Rel μ2 H2 w ∧ Ext μ0 H0 w0 μ2 H2 w := by
  rcases hf with hf | hf
  case inr => exact hf _ _ _ _ _ hr0 hv hr hx
  obtain ⟨hlen, hS, hH⟩ := hf
  replace hlen := Nat.le_of_ble_eq_true hlen
  obtain ⟨hl1, hS⟩ := fadeS_iff hS
  obtain ⟨hl2, hH⟩ := fadeH_iff hH
  have hget : ∀ i, i < H2.length → (μ.take H2.length)[i]? = μ[i]? := fun i hi => by rw [List.getElem?_take, if_pos hi]
  have hlt : ∀ {i b}, (μ.take H2.length)[i]? = some b → i < H2.length ∧ μ[i]? = some b := fun {i b} hi => by
    rw [List.getElem?_take] at hi
    split at hi
    · exact ⟨‹_›, hi⟩
    · cases hi
  have hs : ∀ i b, i < H2.length → μ[i]? = some b → (μ.take H2.length)[i]? = some b := fun i b hi hb => by rw [hget i hi]; exact hb
  have hμl : (μ.take H2.length).length = H2.length := by rw [List.length_take, ← hr.len]; omega
  refine ⟨μ.take H2.length, ⟨by rw [← hl1, hv.1], fun i x y hx' hy => ?_⟩, ⟨hμl.symm, (List.take_sublist _ _).nodup hr.nd, fun b hb => hr.lt b (List.mem_of_mem_take hb), ?_, ?_, ⟨fun b hb => hr.base.hi b (List.mem_of_mem_take hb), hr.base.le, hr.base.eq⟩⟩, ?_⟩
  · rcases hS i x hx' with h | ⟨h1, h2⟩
    · exact .inl h
    · rcases hv.2 i x y h1 hy with h | h
      · exact .inl h
      · exact .inr (h.cut hs 6 _ _ h2)
  · intro i b c e hi hμ
    obtain ⟨hil, hμ⟩ := hlt hμ
    rcases hH i _ hi with ⟨c1, e1, h1, h2, h3⟩ | ⟨f, h1, _⟩ | h1
    · cases h1
      obtain ⟨c', hw, hc⟩ := hr.blk i b c e h2 hμ
      exact ⟨c', hw, hc.1, fun j x y hx' hy => (hc.2 j x y hx' hy).cut hs 6 _ _ ((List.all_eq_true.1 h3) x (List.mem_of_getElem? hx'))⟩
    · cases h1
    · cases h1
  · intro i b f hi hμ o v hfo
    obtain ⟨hil, hμ⟩ := hlt hμ
    rcases hH i _ hi with ⟨c1, e1, h1, _⟩ | ⟨f1, h1, h2, h3⟩ | h1
    · cases h1
    · cases h1
      have hi0 : i < H0.length := (List.getElem?_eq_some_iff.1 h3).1
      have hμ0 : μ0[i]? = some b := by
        obtain ⟨ext, rfl, _⟩ := hx.pre
        rw [List.getElem?_append_left (by rw [← hr0.len]; exact hi0)] at hμ; exact hμ
      obtain ⟨v', hc, hvr⟩ := hr0.rob i b f h3 hμ0 o v hfo
      refine ⟨v', ?_, hvr.mono fun j d hj => ?_⟩
      · rw [cell?_of_heap_eq (hx.same b (hr0.lt b (List.mem_of_getElem? hμ0)) ?_)]
        · exact hc
        · rintro ⟨j, c, e, hj, hc⟩
          have := nodup_inj hr0.nd hμ0 hj
          subst this
          rw [h3] at hc; cases hc
      · have hjl : j < H2.length := by have := (List.getElem?_eq_some_iff.1 hj).1; rw [← hr0.len] at this; omega
        rw [hget j hjl]; exact hx.sub _ _ hj
    · cases h1
  · obtain ⟨ext, rfl, hext⟩ := hx.pre
    refine ⟨⟨ext.take (H2.length - μ0.length), ?_, fun b hb => hext b (List.mem_of_mem_take hb)⟩, hx.size, hx.os, hx.tape, hx.output, hx.same, fun i c e hi hc => ?_⟩
    · rw [List.take_append, List.take_of_length_le (by rw [← hr0.len]; exact hlen)]
    · rcases hH i _ hc with ⟨c1, e1, h1, h2, _⟩ | ⟨f, h1, _⟩ | h1
      · cases h1; exact hx.own i c e hi h2
      · cases h1
      · cases h1

theorem code_sound (hT : TabOk P T) (hs : Hints) : ∀ (c : Code) (K : AK) (ts : List Value) (H : List Blk), codeOk T hs c = true → AWp P T hs c K ts H →
    ∀ (μ : List Nat) (a : Act) (w : World), SRs μ ts a.tmps.toList → Rel μ H w → a.defers = [] → c.wp P (OutX μ H w K) a w := by
  intro c
  induction c with
  | skip => intro K ts H _ h μ a w hv hr hd; exact wp_skip ⟨μ, ts, H, hv, hr, Ext.refl _ _ _, hd, h⟩
  | region id ops draw =>
    intro K ts H ho h μ a w hv hr hd
    cases draw with
    | false =>
      have hok : ∀ o ∈ ops.toList, o.op.operands.toList.all opOk = true := fun o hm => (List.all_eq_true.1 ho) o hm
      have := ops_sound (μ0 := μ) (H0 := H) (w0 := w) (K := K .normal) hT hok hr.len ops.toList 0 rfl μ ts H a w h hv hr (Ext.refl _ _ _) hd
      refine wp_mono (wp_region (id := id) ?_) fun e a w h => of_atEnd e a w h
      rw [List.range_eq_range']
      simpa using this
    | true =>
      simp only [codeOk, Bool.and_eq_true] at ho
      have hok : ∀ o ∈ ops.toList, o.op.operands.toList.all opOk = true := fun o hm => (List.all_eq_true.1 ho.1) o hm
      obtain ⟨p, hp, h⟩ := hint_iff h
      have hpl : planOk T ops p = true := by have := ho.2; rw [hp] at this; exact this
      exact wp_mono (region_draw hT hpl hok h hv hr hd) fun e a w h => of_atEnd e a w h
  | seq x y ihx ihy =>
    intro K ts H ho h μ a w hv hr hd
    simp only [codeOk, Bool.and_eq_true] at ho
    refine wp_seq (wp_mono (ihx _ ts H ho.1 h μ a w hv hr hd) fun e a1 w1 h1 => ?_)
    cases e with
    | normal =>
      obtain ⟨μ1, ts1, H1, hv1, hr1, hx1, hd1, h1⟩ := h1
      exact wp_mono (ihy K ts1 H1 ho.2 h1 μ1 a1 w1 hv1 hr1 hd1) fun e a w h => OutX.trans hr.len hr1.len hx1 e a w h
    | exit id => exact h1
    | ret => exact h1
    | goto l => exact h1
    | panic c => exact h1
    | outgrown => exact h1
  | cond c x y ihx ihy =>
    intro K ts H ho h μ a w hv hr hd
    simp only [codeOk, Bool.and_eq_true] at ho
    obtain ⟨v, h, hcv⟩ := ev_sound hv h ho.1.1
    obtain ⟨b, rfl⟩ : ∃ b, v = .bool b := by
      split at h
      · exact ⟨_, rfl⟩
      · exact False.elim h
    have hc : a.eval c = .bool b := by generalize a.eval c = z at hcv; cases hcv; rfl
    rcases bif_iff h with ⟨rfl, h⟩ | ⟨rfl, h⟩
    · exact wp_cond_true hc (ihx K ts H ho.1.2 h μ a w hv hr hd)
    · exact wp_cond_false hc (ihy K ts H ho.2 h μ a w hv hr hd)
  | block id c ih =>
    intro K ts H ho h μ a w hv hr hd
    refine wp_block (wp_mono (ih _ ts H ho h μ a w hv hr hd) fun e a1 w1 h1 => ?_)
    cases e with
    | normal => exact h1
    | exit j =>
      simp only [OutX, Exit.inBlock] at h1 ⊢
      cases hj : Nat.beq j id with
      | true =>
        simp only [hj] at h1
        rw [if_pos (Nat.eq_of_beq_eq_true hj)]
        exact h1
      | false =>
        simp only [hj] at h1
        rw [if_neg (fun e => by rw [e] at hj; simp at hj)]
        exact h1
    | ret => exact h1
    | goto l => exact h1
    | panic c => exact h1
    | outgrown => exact h1
  | loop c ih =>
    intro K ts H ho h μ a w hv hr hd
    rcases h with ⟨n, h⟩ | ⟨n, ts2, H2, hf, h⟩
    case fade =>
      refine wp_loop_rounds n ?_
      have key : ∀ (n : Nat) (ts : List Value) (H1 : List Blk) (μ1 : List Nat) (a1 : Act) (w1 : World), roundsF (AWp P T hs c) K H n ts H1 → SRs μ1 ts a1.tmps.toList → Rel μ1 H1 w1 → a1.defers = [] → Ext μ H w μ1 H1 w1 → Code.rounds P c (OutX μ H w K) n a1 w1 := by
        intro n
        induction n with
        | zero => intro ts H1 μ1 a1 w1 h; exact False.elim h
        | succ n ihn =>
          intro ts H1 μ1 a1 w1 h hv1 hr1 hd1 hx1
          rw [rounds_succ]
          refine wp_mono (ih _ ts H1 ho h μ1 a1 w1 hv1 hr1 hd1) fun e a2 w2 h2 => ?_
          cases e with
          | normal =>
            obtain ⟨μ2, ts2, H2, hv2, hr2, hx2, hd2, ts3, H3, hf3, h3⟩ := h2
            obtain ⟨μ3, hv3, hr3, hx3⟩ := fade_sound hr hv2 hr2 (hx1.trans hr.len hr1.len hx2) hf3
            exact ihn ts3 H3 μ3 a2 w2 h3 hv3 hr3 hd2 hx3
          | exit id => exact Out.trans hr.len hr1.len hx1 h2
          | ret => exact Out.trans hr.len hr1.len hx1 h2
          | goto l => exact h2
          | panic c => exact h2
          | outgrown => exact h2
      obtain ⟨μ2, hv2, hr2, hx2⟩ := fade_sound hr hv hr (Ext.refl _ _ _) hf
      exact key n ts2 H2 μ2 a w h hv2 hr2 hd hx2
    refine wp_loop_rounds n ?_
    have key : ∀ (n : Nat) (ts : List Value) (H1 : List Blk) (μ1 : List Nat) (a1 : Act) (w1 : World), rounds (AWp P T hs c) K n ts H1 → SRs μ1 ts a1.tmps.toList → Rel μ1 H1 w1 → a1.defers = [] → Ext μ H w μ1 H1 w1 → Code.rounds P c (OutX μ H w K) n a1 w1 := by
      intro n
      induction n with
      | zero => intro ts H1 μ1 a1 w1 h; exact False.elim h
      | succ n ihn =>
        intro ts H1 μ1 a1 w1 h hv1 hr1 hd1 hx1
        rw [rounds_succ]
        refine wp_mono (ih _ ts H1 ho h μ1 a1 w1 hv1 hr1 hd1) fun e a2 w2 h2 => ?_
        cases e with
        | normal =>
          obtain ⟨μ2, ts2, H2, hv2, hr2, hx2, hd2, h2⟩ := h2
          exact ihn ts2 H2 μ2 a2 w2 h2 hv2 hr2 hd2 (hx1.trans hr.len hr1.len hx2)
        | exit id => exact Out.trans hr.len hr1.len hx1 h2
        | ret => exact Out.trans hr.len hr1.len hx1 h2
        | goto l => exact h2
        | panic c => exact h2
        | outgrown => exact h2
    exact key n ts H μ a w h hv hr hd (Ext.refl _ _ _)
  | exit id => intro K ts H _ h μ a w hv hr hd; exact wp_exit ⟨μ, ts, H, hv, hr, Ext.refl _ _ _, hd, h⟩
  | ret => intro K ts H _ h μ a w hv hr hd; exact wp_ret ⟨μ, ts, H, hv, hr, Ext.refl _ _ _, hd, h⟩
  | _ => intro K ts H ho; simp [codeOk] at ho

/-! ### What a function hands back -/
def resStep (tmps : Array Value) : ResultVar → Sem Value
  | .tmp t => pure (tmps.getD t undef)
  | .cell a t => do loadVar t (← asAddr (tmps.getD a undef))

theorem res_sound (hT : TabOk P T) {μ : List Nat} {ts : List Value} {H : List Blk} {tmps : Array Value} {w : World} (hv : SRs μ ts tmps.toList) (hr : Rel μ H w) : ∀ (rs : List ResultVar) {k : List Value → Prop}, resF T H ts rs k →
    ∃ vs cvs, k vs ∧ VRs μ vs cvs ∧ (rs.mapM (resStep tmps)).run P w = .ok cvs w
  | [], k, h => ⟨[], [], h, VRs.nil, rfl⟩
  | .tmp t :: rs, k, h => by
    obtain ⟨v, hvt, h⟩ := getF_iff h
    obtain ⟨hj, h⟩ := sure_iff h
    obtain ⟨cv, hcv, hvr⟩ := hv.get hvt
    replace hvr := sure_of hj hvr
    obtain ⟨vs, cvs, hk, hvs, hrun⟩ := res_sound hT hv hr rs h
    have : tmps[t]? = some cv := by simpa using hcv
    exact ⟨v :: vs, cv :: cvs, hk, VRs.cons hvr hvs, by simp [List.mapM_cons, resStep, this, hrun]⟩
  | .cell a t :: rs, k, h => by
    obtain ⟨p, hp, h⟩ := getF_iff h
    obtain ⟨hj, h⟩ := sure_iff h
    obtain ⟨cp, hcp, hpr⟩ := hv.get hp
    replace hpr := sure_of hj hpr
    obtain ⟨i, o, v, rfl, h, hl⟩ := load_sound h
    obtain ⟨b, rfl, hμ⟩ := hpr.of_ptr
    obtain ⟨l, hvl, hc⟩ := hl.cells μ w b hr hμ
    obtain ⟨cv, hvr, hrun0⟩ := ld_run (o := o) (b := b) hT hl hvl
    obtain ⟨vs, cvs, hk, hvs, hrun⟩ := res_sound hT hv hr rs h
    have : tmps[a]? = some (.pointer (some ⟨b, o, none⟩)) := by simpa using hcp
    exact ⟨v :: vs, cv :: cvs, hk, VRs.cons hvr hvs, by simp [List.mapM_cons, resStep, this, asAddr, hrun0 w hc, hrun]⟩

theorem results_eq (fn : Func) (tmps : Array Value) : results fn tmps = (do let vs ← fn.results.mapM (resStep tmps); pure (if h : vs.size = 1 then vs[0] else .tuple vs)) := by
  unfold results
  congr 2

theorem ACalls.intro (hT : TabOk P T) (hs : Hints) {f : FuncId} {fn : Func} {c : Code} {args : List Value} {H : List Blk} {R : Value → List Blk → Prop} (hf : P.funcs[f]? = some fn) (hb : fn.body = some c)
    (hcall : ∀ (args : Array Value) (w : World), (callFunc f args).run P w = .ok (.enter f args) w) (hok : codeOk T hs c = true)
    (h : AWp P T hs c (postF T fn.results.toList R) (args ++ List.replicate (fn.ntmps - args.length) undef) H) : ACalls P f args H R := by
  refine ⟨fun μ w cargs hv hr => ⟨hcall _ _, calls_of_wp hf hb ?_⟩⟩
  have hv' : VRs μ (args ++ List.replicate (fn.ntmps - args.length) undef) ((cargs.toArray ++ Array.replicate (fn.ntmps - cargs.toArray.size) undef).toList) := by
    simp only [Array.toList_append, Array.toList_replicate, List.size_toArray]
    rw [hv.1]
    exact hv.append (VRs.replicate _ VR.undef)
  refine wp_mono (code_sound hT hs c _ _ H hok h μ _ w hv'.sr hr rfl) fun e a w' ho => ?_
  have fin : ∀ {e : Ex}, (∀ id, e ≠ .exit id) → Out μ H w (postF T fn.results.toList R e) a w' → a.defers = [] ∧ ∃ v, (results fn a.tmps).run P w' = .ok v w' ∧ ∃ (v' cv : Value) (μ' : List Nat) (H' : List Blk), Ending.returned v = .returned cv ∧ VR μ' v' cv ∧ Rel μ' H' w' ∧ Ext μ H w μ' H' w' ∧ R v' H' := fun {e} he ho => by
    obtain ⟨μ1, ts1, H1, hv1, hr1, hx1, hd1, h1⟩ := ho
    have h2 : resF T H1 ts1 fn.results.toList fun vs => match vs with | [v] => R v H1 | vs => R (.tuple vs.toArray) H1 := by
      cases e with
      | exit id => exact absurd rfl (he id)
      | normal => exact h1
      | ret => exact h1
    obtain ⟨vs, cvs, hk, hvs, hrun⟩ := res_sound hT hv1 hr1 _ h2
    refine ⟨hd1, ?_⟩
    have hm : (fn.results.mapM (resStep a.tmps)).run P w' = .ok cvs.toArray w' := by
      rw [Array.mapM_eq_mapM_toList]
      simp [hrun]
    cases vs with
    | nil =>
      have hc0 : cvs = [] := by have := hvs.1; simpa using this.symm
      subst hc0
      exact ⟨.tuple #[], by rw [results_eq]; simp [hm], _, _, μ1, H1, rfl, VR.tups VRs.nil, hr1, hx1, hk⟩
    | cons v vs =>
      cases cvs with
      | nil => exact absurd hvs.1 (by simp)
      | cons cv cvs =>
        cases vs with
        | nil =>
          have hc0 : cvs = [] := by have := hvs.1; simpa using this.symm
          subst hc0
          exact ⟨cv, by rw [results_eq]; simp [hm], _, _, μ1, H1, rfl, hvs.2 0 _ _ rfl rfl, hr1, hx1, hk⟩
        | cons v2 vs =>
          cases cvs with
          | nil => exact absurd hvs.1 (by simp)
          | cons cv2 cvs => exact ⟨.tuple (cv :: cv2 :: cvs).toArray, by rw [results_eq]; simp [hm], _, _, μ1, H1, rfl, VR.tups hvs, hr1, hx1, hk⟩
  cases e with
  | normal => exact fin (e := .normal) (by simp) ho
  | ret => exact fin (e := .ret) (by simp) ho
  | exit id =>
    obtain ⟨_, _, _, _, _, _, _, h5⟩ := ho
    exact False.elim h5
  | goto l => exact False.elim ho
  | panic c => exact False.elim ho
  | outgrown => exact False.elim ho

theorem ACalls.mono {f : FuncId} {args : List Value} {H : List Blk} {R R' : Value → List Blk → Prop} (h : ACalls P f args H R) (hr : ∀ v H', R v H' → R' v H') : ACalls P f args H R' :=
  ⟨fun μ w cargs hv hrel => by
    obtain ⟨h1, h2⟩ := h.out μ w cargs hv hrel
    refine ⟨h1, h2.mono fun e w' hh => ?_⟩
    obtain ⟨v, cv, μ', H', he, h3, h4, h5, h6⟩ := hh
    exact ⟨v, cv, μ', H', he, h3, h4, h5, hr _ _ h6⟩⟩

end
end Go.Aw
end
