/-
  The operations that make memory, write, or call; the operations of a region, in the text's order.
-/
import Derived.Test.YtmdiokmkokjpiaaGreatCore7
import Derived.Laws.MakeOwn
import Derived.Laws.OwnMore
set_option linter.all false
set_option linter.unusedVariables false
set_option linter.unusedSimpArgs false
set_option linter.unnecessarySimpa false
namespace Go.Aw
section
variable {P : Program} {T : Tab} {μ : List Nat} {ts : List Value} {a : Act}

/-- What follows is met in every world that holds what the operation leaves. -/
def Next' (μ : List Nat) (H : List Blk) (w : World) (a : Act) (dst : Option Tmp) (k : Value → List Blk → Prop) (next : Act → World → Prop) : Prop :=
  ∀ (v cv : Value) (μ' : List Nat) (H' : List Blk) (w' : World), VR μ' v cv → Rel μ' H' w' → Ext μ H w μ' H' w' → k v H' → next (a.put dst cv) w'

theorem wp_value {ar : Act} {o : Oper} (heq : execOp ar.eval o = execOp a.eval o) {w w' : World} {cv : Value} {next : Act → World → Prop} {Q : Exit → Act → World → Prop} (h : (execOp a.eval o).run P w = .ok (.value cv) w') (hn : next (ar.put o.dst cv) w') : o.wp P ar w next Q := by
  unfold Oper.wp; rw [heq, h]; exact hn
theorem wp_skipped {ar : Act} {o : Oper} (heq : execOp ar.eval o = execOp a.eval o) {w w' : World} {next : Act → World → Prop} {Q : Exit → Act → World → Prop} (h : (execOp a.eval o).run P w = .ok .skip w') (hn : next (ar.put o.dst undef) w') : o.wp P ar w next Q := by
  unfold Oper.wp; rw [heq, h]; exact hn

theorem one_eq (v : Value) : one v = v.oneCell' := by cases v <;> rfl

theorem store_sound (hT : TabOk P T) {H : List Blk} {w : World} (hr : Rel μ H w) {t : TypeId} {x cx v cv : Value} {k : List Blk → Prop} (h : storeF T H t x v k) (hx : VR μ x cx) (hv : VR μ v cv) :
    ∃ H' w', k H' ∧ (Instr.storeAt t cx cv).run P w = .ok () w' ∧ Rel μ H' w' ∧ Ext μ H w μ H' w' := by
  unfold storeF at h
  split at h
  · rename_i i o
    obtain ⟨b, rfl, hμ⟩ := hx.of_ptr
    obtain ⟨blk, hb, h⟩ := getF_iff h
    cases blk <;> try exact False.elim h
    rename_i c e
    replace h := tinfF_iff h
    obtain ⟨j, hj, h⟩ := h
    obtain ⟨c', hw, hc⟩ := hr.blk i b c e hb hμ
    -- the cells that are laid
    have key : ∀ (vs vs' : List Value), VRs μ vs vs' → vs.all one = true → cv.cells.toList = vs' → vs.length = j.size → (putF c o vs fun c' => setF H i (.cells c' e) k) →
        ∃ H' w', k H' ∧ (Instr.storeAt t (.pointer (some ⟨b, o, none⟩)) cv).run P w = .ok () w' ∧ Rel μ H' w' ∧ Ext μ H w μ H' w' := fun vs vs' hvs h1 hcv hlen h => by
      obtain ⟨hle, h⟩ := putF_iff h
      have h := setF_iff h
      obtain ⟨hr', hx'⟩ := hr.setRow hb hμ (hc.lay hvs o)
      have hle' : o + 0 + vs'.length ≤ c'.toArray.size := by rw [← hvs.1]; simp; rw [← hc.1]; exact hle
      have h1' : ∀ v ∈ vs', v.oneCell' = true := fun v hv => by
        obtain ⟨n, hn⟩ := List.mem_iff_getElem?.1 hv
        have hnl : n < vs.length := by rw [hvs.1]; exact (List.getElem?_eq_some_iff.1 hn).1
        have := hvs.2 n _ v (List.getElem?_eq_getElem hnl) hn
        rw [this.oneCell, ← one_eq]
        exact (List.all_eq_true.1 h1) _ (List.getElem_mem hnl)
      have hst := run_storeCells_at P b o e vs' 0 c'.toArray w hw hle' h1'
      have hsz : cv.cells.size = j.size := by
        have := congrArg List.length hcv; simp at this; rw [this, ← hvs.1, hlen]
      refine ⟨_, _, h, ?_, hr', hx'⟩
      have hst' : (storeCells ⟨b, o, none⟩ cv.cells.toList).run P w = .ok () (w.setRow b (lay c' o vs').toArray) := by
        rw [hcv]
        simpa [lay] using hst
      simp [Instr.storeAt, Instr.sureAddr, storeVar, hT.sizeOf hj w, hsz, hst']
    cases ha : isAggD j.desc with
    | true =>
      simp only [ha] at h
      cases v with
      | agg vs =>
        obtain ⟨hq, h⟩ := req_iff h
        simp only [Bool.and_eq_true] at hq
        obtain ⟨vs', rfl, hvs⟩ := hv.of_agg
        exact key vs.toList vs'.toList hvs hq.2 rfl (Nat.eq_of_beq_eq_true hq.1) h
      | _ => exact False.elim h
    | false =>
      simp only [ha] at h
      obtain ⟨hq, h⟩ := req_iff h
      simp only [Bool.and_eq_true] at hq
      refine key [v] [cv] (VRs.cons hv VRs.nil) (by simp [hq.1]) ?_ (Nat.eq_of_beq_eq_true hq.2).symm h
      have := hv.oneCell
      rw [← one_eq, ← one_eq, hq.1] at this
      cases cv <;> first | rfl | (simp [one] at this)
  · exact False.elim h

theorem alloc_run (hT : TabOk P T) {e : TypeId} {i : TInf} (hi : T[e]? = some (some i)) (w : World) :
    (Instr.alloc e true (.tuple #[])).run P w = .ok (.pointer (some ⟨w.heap.size, 0, none⟩)) (w.alloc (.cells i.zero.toArray e)) := by
  obtain ⟨f, z, hf, hs, hb, hz, hzc⟩ := hT.info e i hi
  have hzc' : z.cells = i.zero.toArray := by rw [← hzc]
  simp [Instr.alloc, zeroValue, typeInfo, hf, hz, newVar, newRow, hzc']

theorem last_name {μ : List Nat} {H : List Blk} {w : World} (h : Rel μ H w) (b : Nat) : (μ ++ [b])[H.length]? = some b := by rw [h.len]; simp

theorem oneF_iff {l : List Value} {k : VK} (h : oneF l k) : ∃ z, l = [z] ∧ k z := by
  match l, h with
  | [z], h => exact ⟨z, rfl, h⟩
  | [], h => exact False.elim h
  | _ :: _ :: _, h => exact False.elim h
theorem catF_iff {α : Type} {l m : List α} {k : List α → Prop} (h : catF l m k) : k (l ++ m) := by
  induction l generalizing k with
  | nil => exact h
  | cons a l ih => exact ih (k := fun l' => k (a :: l')) h
theorem catF_of {α : Type} {l m : List α} {k : List α → Prop} (h : k (l ++ m)) : catF l m k := by
  induction l generalizing k with
  | nil => exact h
  | cons a l ih => exact ih (k := fun l' => k (a :: l')) h

theorem VRs.flat {n : Nat} {z : List Value} (h : VRs μ z z) : VRs μ (replZ n z) (replZ n z) := by
  unfold replZ
  induction n with
  | zero => exact VRs.nil
  | succ n ih => rw [List.replicate_succ, List.flatten_cons]; exact h.append ih

theorem zeroCells_eq (z : Array Value) (n : Nat) : (Builtin.zeroCells z n).toList = replZ n z.toList := by
  unfold replZ Builtin.zeroCells
  apply List.ext_getElem?
  intro i
  simp only [Array.toList_map, Array.toList_range, List.getElem?_map]
  by_cases hi : i < n * z.size
  · have hz : 0 < z.size := by
      rcases Nat.eq_zero_or_pos z.size with h | h
      · rw [h] at hi; simp at hi
      · exact h
    rw [List.getElem?_range hi]
    simp only [Option.map_some]
    have hm : i % z.size < z.size := Nat.mod_lt _ hz
    rw [getElem!_pos z (i % z.size) hm]
    have key : ∀ (n i : Nat), i < n * z.size → (List.replicate n z.toList).flatten[i]? = some (z[i % z.size]'(Nat.mod_lt _ hz)) := by
      intro n
      induction n with
      | zero => intro i hi; simp at hi
      | succ n ih =>
        intro i hi
        rw [List.replicate_succ, List.flatten_cons, List.getElem?_append]
        split
        · rename_i hlt
          simp only [Array.length_toList] at hlt
          have e : i % z.size = i := Nat.mod_eq_of_lt hlt
          simp [e, hlt]
        · rename_i hge
          simp only [Array.length_toList] at hge ⊢
          rw [ih (i - z.size) (by rw [Nat.succ_mul] at hi; omega)]
          congr 1
          have : i % z.size = (i - z.size) % z.size := by
            rw [Nat.mod_eq_sub_mod (by omega)]
          simp only [this]
    rw [key n i hi]
  · rw [List.getElem?_eq_none (by simpa using Nat.le_of_not_lt hi), List.getElem?_eq_none]
    · rfl
    · simp only [List.length_flatten, List.map_replicate, Array.length_toList]
      have : ∀ n : Nat, (List.replicate n z.size).sum = n * z.size := fun n => by
        induction n with
        | zero => simp
        | succ n ih => rw [List.replicate_succ, List.sum_cons, ih, Nat.succ_mul]; omega
      rw [this]
      omega

/-- The source of an append or a copy. -/
theorem src_sound {H : List Blk} {w : World} (hr : Rel μ H w) {size : Nat} {x cx : Value} {k : List Value → Nat → Prop} (h : srcF H size x k) (hx : VR μ x cx) :
    ∃ (l l' : List Value) (n : Nat), k l n ∧ VRs μ l l' ∧ (Builtin.lenOf cx).run P w = .ok n w ∧ (∀ w' : World, w'.heap = w.heap → (Builtin.firstCells size n cx).run P w' = .ok l'.toArray w') ∧ l.length = n * size := by
  unfold srcF at h
  split at h
  · rename_i n c
    obtain ⟨hq, h⟩ := req_iff h
    have hn := Nat.eq_of_beq_eq_true hq
    subst hn
    cases hx
    exact ⟨[], [], 0, h, VRs.nil, rfl, fun _ _ => rfl, by simp⟩
  · rename_i b p n c
    obtain ⟨blk, hb, h⟩ := getF_iff h
    cases blk <;> try exact False.elim h
    rename_i cs e
    obtain ⟨h1, h⟩ := dropF_iff h
    obtain ⟨h2, h⟩ := takeF_iff h
    cases hx with
    | sl _ b' _ _ _ hμ =>
      obtain ⟨c', hw, hc⟩ := hr.blk _ _ _ _ hb hμ
      have hlen : ((c'.drop p).take (n * size)).length = n * size := by
        have := hc.1; simp at h2 ⊢; omega
      refine ⟨_, (c'.drop p).take (n * size), n, h, (hc.drop p).take _, rfl, fun w' hh => ?_, by simp at h2 ⊢; omega⟩
      have := run_loadCells_list (P := P) w' ⟨b', p, none⟩ ((c'.drop p).take (n * size)) (fun m x hx => by
        rw [add_lit, cell_of_row w' b' _ _ e _ (by rw [hh]; exact hw)]
        rw [List.getElem?_take] at hx
        split at hx
        · rw [List.getElem?_drop] at hx; simpa using hx
        · cases hx)
      rw [hlen] at this
      simpa [Builtin.firstCells] using this
  · exact False.elim h

theorem one_all {l l' : List Value} (h : l.all one = true) (hv : VRs μ l l') : ∀ v ∈ l', v.oneCell' = true := fun v hm => by
  obtain ⟨n, hn⟩ := List.mem_iff_getElem?.1 hm
  have hnl : n < l.length := by rw [hv.1]; exact (List.getElem?_eq_some_iff.1 hn).1
  have := hv.2 n _ v (List.getElem?_eq_getElem hnl) hn
  rw [this.oneCell, ← one_eq]
  exact (List.all_eq_true.1 h) _ (List.getElem_mem hnl)

theorem app_sound (hT : TabOk P T) {H : List Blk} {w : World} (hr : Rel μ H w) {t t1 e ty : TypeId} {i i1 j : TInf} (hi : T[t]? = some (some i)) (hd : i.desc = .slice e) (hi1 : T[t1]? = some (some i1)) {e1 : TypeId} (hd1 : i1.desc = .slice e1)
    (hj : T[e]? = some (some j)) {s x cs cx : Value} {k : Value → List Blk → Prop} (h : appF H e j s x k) (hs : VR μ s cs) (hx : VR μ x cx) {tys : Array TypeId} (ht : tys[0]? = some t) (ht1 : tys[1]? = some t1) :
    ∃ v cv μ' H' w', VR μ' v cv ∧ Rel μ' H' w' ∧ Ext μ H w μ' H' w' ∧ k v H' ∧ (Builtin.append_ tys ty #[cs, cx]).run P w = .ok cv w' := by
  obtain ⟨new, new', n, h, hnew, hlen, hfirst, hnl⟩ := src_sound (P := P) hr h hx
  obtain ⟨f, zv, hf, hfs, hfb, hfz, hzc⟩ := hT.info e j hj
  have hu := hT.underlying hi w
  have hu1 := hT.underlying hi1 w
  rw [hd] at hu
  rw [hd1] at hu1
  obtain ⟨base, len, cap, rfl⟩ : ∃ base len cap, s = .slice base len cap := by
    cases s with
    | slice base len cap => exact ⟨_, _, _, rfl⟩
    | _ => exact False.elim h
  rcases bif_iff h with ⟨hle, h⟩ | ⟨hgt, h⟩
  · have hle := of_decide_eq_true hle
    cases hs with
    | slN _ _ =>
      refine ⟨_, _, μ, H, w, .slN _ _, hr, Ext.refl _ _ _, h, ?_⟩
      simp [Builtin.append_, ht, ht1, hu, hu1, hT.sizeOf hj w, hlen, hle, hfirst w rfl]
    | sl b b' o _ _ hμ =>
      obtain ⟨blk, hb, h⟩ := getF_iff h
      cases blk <;> try exact False.elim h
      rename_i c e'
      obtain ⟨h1, h⟩ := req_iff h
      obtain ⟨hfit, h⟩ := putF_iff h
      have h := setF_iff h
      obtain ⟨c', hw, hc⟩ := hr.blk _ _ _ _ hb hμ
      obtain ⟨hr', hx'⟩ := hr.setRow hb hμ (hc.lay hnew (o + len * j.size))
      have hle' : o + len * j.size + 0 + new'.length ≤ c'.toArray.size := by rw [← hnew.1]; simp; rw [← hc.1]; exact hfit
      have hst := run_storeCells_at P b' (o + len * j.size) e' new' 0 c'.toArray w hw hle' (one_all h1 hnew)
      refine ⟨_, _, μ, _, _, .sl _ _ _ _ _ hμ, hr', hx', h, ?_⟩
      have hst' : (storeCells ⟨b', o + len * j.size, none⟩ new').run P w = .ok () (w.setRow b' (Aw.lay c' (o + len * j.size) new').toArray) := by
        simpa [Aw.lay] using hst
      simp [Builtin.append_, ht, ht1, hu, hu1, hT.sizeOf hj w, hlen, hle, hfirst w rfl, add_lit, hst']
  · have hgt := of_decide_eq_false hgt
    obtain ⟨hq, h⟩ := req_iff h
    simp only [Bool.and_eq_true, decide_eq_true_eq] at hq
    obtain ⟨⟨hq0, hq1⟩, hq2⟩ := hq
    have hb0 : f.bytes ≠ 0 := by
      rw [hfb]; intro e0; rw [e0] at hq2; simp [Nat.blt] at hq2
    obtain ⟨old, old', n2, h, hold, hlen2, hfirst2, hol⟩ := src_sound (P := P) hr h hs
    have hn2 : n2 = len := by
      cases hs <;> (simp [Builtin.lenOf] at hlen2; exact hlen2.symm)
    subst hn2
    have h := catF_iff h
    have hbase : ∃ cb, cs = .slice cb n2 cap := by cases hs <;> exact ⟨_, rfl⟩
    obtain ⟨cb, rfl⟩ := hbase
    let nc := (Question.appendCap (n2 + n) cap e).cut (w.tape w.drawn (.appendCap (n2 + n) cap e))
    have hnc : nc = n2 + n + w.tape w.drawn (.appendCap (n2 + n) cap e) % (2 ^ 63 - (n2 + n)) := rfl
    have hpow : (2 : Nat) ^ 63 = 9223372036854775808 := by decide
    have hlt : w.tape w.drawn (.appendCap (n2 + n) cap e) % (2 ^ 63 - (n2 + n)) < 2 ^ 63 - (n2 + n) := Nat.mod_lt _ (by rw [hpow]; omega)
    have h := h nc (by omega) (by omega)
    have h := catF_iff h
    have h := newF_nums h
    have hz0 := hT.zero e j hj μ
    obtain ⟨hr', hx'⟩ := hr.drew.alloc e ((hold.append hnew).append (VRs.flat (n := nc - (n2 + n)) hz0))
    refine ⟨_, .slice (some ⟨w.heap.size, 0, none⟩) (n2 + n) nc, _, _, _, .sl _ _ _ _ _ (last_name hr _), hr', hx'.of_drew, h, ?_⟩
    have hno : ¬ n2 + n ≤ cap := hgt
    have hcut : ¬ 281474976710656 < Builtin.nextslicecap (n2 + n) cap * f.bytes := by rw [hfb]; omega
    have hfill : Builtin.zeroCells zv.cells (nc - (n2 + n)) = (replZ (nc - (n2 + n)) j.zero).toArray := by
      apply Array.ext'
      rw [zeroCells_eq, hzc]
    have hch : (choose (.appendCap (n2 + n) cap e)).run P w = .ok nc w.drew := rfl
    have hlen' : (Builtin.lenOf cx).run P w = .ok n w := hlen
    have hf1 : (Builtin.firstCells j.size n2 (.slice cb n2 cap)).run P w.drew = .ok old'.toArray w.drew := hfirst2 w.drew rfl
    have hf2 : (Builtin.firstCells j.size n cx).run P w.drew = .ok new'.toArray w.drew := hfirst w.drew rfl
    simp [-run_choose, Builtin.append_, ht, ht1, hu, hu1, hT.sizeOf hj w, hlen', hno, typeInfo, hf, hb0, hcut, hch, hf1, hf2, zeroValue, hfz, hfill, newRow]

theorem effect_sound (hT : TabOk P T) (o : Oper) {ar : Act} (heq : execOp ar.eval o = execOp a.eval o) {H : List Blk} {w : World} {k : Value → List Blk → Prop} (h : effectF P T H ts o.op k) (ho : o.op.operands.toList.all opOk = true)
    (hv : SRs μ ts a.tmps.toList) (hr : Rel μ H w) {next : Act → World → Prop} {Q : Exit → Act → World → Prop} (hn : Next' μ H w ar o.dst k next) : o.wp P ar w next Q := by
  obtain ⟨dst, op, type, pos, after, guard⟩ := o
  simp only at h ho hn
  cases op <;> try exact False.elim h
  all_goals simp only [Op.operands, List.all_cons, List.all_nil, Bool.and_true, Bool.and_eq_true] at ho
  case alloc e =>
    replace h := tinfF_iff h
    obtain ⟨i, hi, h⟩ := h
    have h := newF_nums h
    obtain ⟨hr', hx'⟩ := hr.alloc e (hT.zero e i hi μ)
    exact wp_value heq (by simp [execOp, alloc_run hT hi w]) (hn _ _ _ _ _ (.ptr _ _ _ (last_name hr _)) hr' hx' h)
  case box e x =>
    obtain ⟨v, h, hvx⟩ := ev_sound hv h ho
    have h := newF_nums h
    obtain ⟨hr', hx'⟩ := hr.alloc e hvx.cells
    refine wp_value heq (w' := w.alloc (.cells (a.eval x).cells e)) (cv := .pointer (some ⟨w.heap.size, 0, none⟩)) ?_ (hn _ _ _ _ _ (.ptr _ _ _ (last_name hr _)) (by simpa using hr') (by simpa using hx') h)
    simp [execOp, Instr.box, newVar, newRow]
  case buildSlice t len ps =>
    obtain ⟨vs, h, hp⟩ := evp_sound hv ps.toList h (by simpa using ho)
    replace h := tinfF_iff h
    obtain ⟨i, hi, h⟩ := h
    split at h
    · rename_i e hd
      replace h := tinfF_iff h
      obtain ⟨j, hj, h⟩ := h
      obtain ⟨hq, h⟩ := req_iff h
      simp only [Bool.and_eq_true] at hq
      obtain ⟨z, hz, h⟩ := oneF_iff h
      have hs1 : j.size = 1 := Nat.eq_of_beq_eq_true hq.1
      have hlen : len ≤ 16777216 := Nat.le_of_ble_eq_true hq.2
      obtain ⟨f, zv, hf, hfs, hfb, hfz, hzc⟩ := hT.info e j hj
      have hzz := hT.zero e j hj μ
      have hzr : VR μ z z := by rw [hz] at hzz; exact hzz.2 0 z z rfl rfl
      have hrep : VRs μ (List.replicate len z) (List.replicate len z) := VRs.replicate len hzr
      obtain ⟨r, r', h, hrr, hfill⟩ := fill_sound (μ := μ) (plc := fun n => some (n * 1, 1)) (fun n k h => ⟨_, rfl, h⟩) _ _ _ _ _ h hp hrep
      have h := newF_nums h
      obtain ⟨hr', hx'⟩ := hr.alloc e hrr
      refine wp_value heq (w' := w.alloc (.cells r'.toArray e)) (cv := .slice (some ⟨w.heap.size, 0, none⟩) len len) ?_ (hn _ _ _ _ _ (.sl _ _ _ _ _ (last_name hr _)) hr' hx' h)
      have hzv : zv.cells = #[z] := by rw [← hzc] at hz; apply Array.ext'; simpa using hz
      have hrl : ((Array.range len).map fun n => ([z] : List Value)[n % 1]?.getD default) = (List.replicate len z).toArray := by
        apply Array.ext'
        apply List.ext_getElem?
        intro m
        by_cases hm : m < len
        · simp [hm, Nat.mod_one]
        · simp [hm]
      have e2 : (ps.map fun x => match x with | (i, x) => (i, a.eval x)).toList = ps.toList.map fun p => (p.1, a.eval p.2) := by simp
      have hbig : ¬ (16777216 < len) := by omega
      by_cases hl0 : len = 0
      · subst hl0
        have hfill' : Instr.fill (fun n => some (n, 1)) #[] (ps.toList.map fun p => (p.1, a.eval p.2)) = some r'.toArray := by simpa using hfill
        simp [execOp, Instr.buildSlice, hT.underlying hi w, hd, hT.sizeOf hj w, hs1, newRow, Array.range_zero', hfill']
      · have hfill' : Instr.fill (fun n => some (n, 1)) (Array.replicate len z) (ps.toList.map fun p => (p.1, a.eval p.2)) = some r'.toArray := by simpa using hfill
        simp [execOp, Instr.buildSlice, hT.underlying hi w, hd, hT.sizeOf hj w, hs1, newRow, hl0, hbig, zeroValue, typeInfo, hf, hfz, hzv, hrl, hfill']
    · exact False.elim h
  case store t x y =>
    obtain ⟨vx, h, hx⟩ := ev_sound hv h ho.1
    obtain ⟨vy, h, hy⟩ := ev_sound hv h ho.2
    obtain ⟨H', w', h, hrun, hr', hx'⟩ := store_sound hT hr h hx hy
    exact wp_skipped heq (by simp [execOp, hrun]) (hn _ _ _ _ _ VR.undef hr' hx' h)
  case makeSlice t l c =>
    obtain ⟨vl, h, hl⟩ := ev_sound hv h ho.1
    obtain ⟨vc, h, hc⟩ := ev_sound hv h ho.2
    replace h := tinfF_iff h
    obtain ⟨i, hi, h⟩ := h
    obtain ⟨e, kl, l', kc, c', hd, rfl, rfl⟩ : ∃ e kl l' kc c', i.desc = .slice e ∧ vl = .int kl l' ∧ vc = .int kc c' := by
      split at h
      · exact ⟨_, _, _, _, _, ‹_›, rfl, rfl⟩
      · exact False.elim h
    simp only [hd] at h
    replace h := tinfF_iff h
    obtain ⟨j, hj, h⟩ := h
    obtain ⟨hq, h⟩ := req_iff h
    simp only [Bool.and_eq_true, decide_eq_true_eq] at hq
    obtain ⟨⟨⟨⟨hs, h0⟩, hlc⟩, hb⟩, h63⟩ := hq
    have hs1 : j.size = 1 := Nat.eq_of_beq_eq_true hs
    obtain ⟨z, hz, h⟩ := oneF_iff h
    have h := newF_nums h
    obtain ⟨f, zv, hf, hfs, hfb, hfz, hzc⟩ := hT.info e j hj
    have hzz := hT.zero e j hj μ
    have hzr : VR μ z z := by rw [hz] at hzz; exact hzz.2 0 z z rfl rfl
    have hzv : zv.cells = #[z] := by rw [← hzc] at hz; apply Array.ext'; simpa using hz
    have hrep : VRs μ (repl c'.toNat z) (repl c'.toNat z) := by unfold repl; exact VRs.replicate _ hzr
    obtain ⟨hr', hx'⟩ := hr.alloc e hrep
    generalize hzl : a.eval l = yl at hl
    generalize hzc2 : a.eval c = yc at hc
    cases hl; cases hc
    refine wp_value heq (w' := w.alloc (.cells (repl c'.toNat z).toArray e)) (cv := .slice (some ⟨w.heap.size, 0, none⟩) l'.toNat c'.toNat) ?_ (hn _ _ _ _ _ (.sl _ _ _ _ _ (last_name hr _)) hr' hx' h)
    have := run_make (P := P) w t e f zv ((hT.und t i hi).trans (by rw [hd])) hf hfz kl kc l' c' h0 hlc (by rw [hfb]; exact hb) h63
    have e2 : (madeCells zv.cells (c'.toNat * f.size)) = (repl c'.toNat z).toArray := by
      apply Array.ext'
      rw [hzv, hfs, hs1, Nat.mul_one, toList_madeCells_one]
      simp [repl]
    rw [e2] at this
    simp [execOp, hzl, hzc2, this]
  case call c =>
    obtain ⟨callee, args, tys⟩ := c
    cases callee with
    | invoke r m => exact False.elim h
    | builtin b =>
      simp only [Call.operands, Array.toList_append, List.all_append, Bool.and_eq_true, List.all_nil, true_and] at ho
      cases b <;> try exact False.elim h
      case append =>
        obtain ⟨vs, h, hvs⟩ := evs_sound hv args.toList h ho
        obtain ⟨t, ht, h⟩ := getF_iff h
        obtain ⟨t1, ht1, h⟩ := getF_iff h
        replace h := tinfF_iff h
        obtain ⟨i, hi, h⟩ := h
        replace h := tinfF_iff h
        obtain ⟨i1, hi1, h⟩ := h
        obtain ⟨e, e1, s, x, hd, hd1, rfl⟩ : ∃ e e1 s x, i.desc = .slice e ∧ i1.desc = .slice e1 ∧ vs = [s, x] := by
          split at h
          · exact ⟨_, _, _, _, ‹_›, ‹_›, rfl⟩
          · exact False.elim h
        simp only [hd, hd1] at h
        replace h := tinfF_iff h
        obtain ⟨j, hj, h⟩ := h
        obtain ⟨cs, cx, hargs⟩ : ∃ cs cx, args.toList.map a.eval = [cs, cx] := by
          have := hvs.1
          match hl : args.toList.map a.eval, this with
          | [cs, cx], _ => exact ⟨cs, cx, rfl⟩
        rw [hargs] at hvs
        obtain ⟨v, cv, μ', H', w', hvr, hr', hx', hk, hrun⟩ := app_sound (ty := type) hT hr hi hd hi1 hd1 hj h (hvs.2 0 _ _ rfl rfl) (hvs.2 1 _ _ rfl rfl) (tys := tys) (by simpa using ht) (by simpa using ht1)
        refine wp_value heq ?_ (hn _ _ _ _ _ hvr hr' hx' hk)
        have hargs' : args.map a.eval = #[cs, cx] := by apply Array.ext'; simpa using hargs
        simp only [execOp, resolve, invoke, builtin, hargs', Sem.run_bind, Sem.run_pure, Result.andThen_ok, hrun]
      case copy =>
        obtain ⟨vs, h, hvs⟩ := evs_sound hv args.toList h ho
        obtain ⟨t, ht, h⟩ := getF_iff h
        replace h := tinfF_iff h
        obtain ⟨i, hi, h⟩ := h
        obtain ⟨e, s, x, hd, rfl⟩ : ∃ e s x, i.desc = .slice e ∧ vs = [s, x] := by
          split at h
          · exact ⟨_, _, _, ‹_›, rfl⟩
          · exact False.elim h
        simp only [hd] at h
        replace h := tinfF_iff h
        obtain ⟨j, hj, h⟩ := h
        obtain ⟨hq, h⟩ := req_iff h
        have hs1 : j.size = 1 := Nat.eq_of_beq_eq_true hq
        obtain ⟨cs, cx, hargs⟩ : ∃ cs cx, args.toList.map a.eval = [cs, cx] := by
          have := hvs.1
          match hl : args.toList.map a.eval, this with
          | [cs, cx], _ => exact ⟨cs, cx, rfl⟩
        rw [hargs] at hvs
        have hvs0 := hvs.2 0 _ _ rfl rfl
        have hvs1 := hvs.2 1 _ _ rfl rfl
        obtain ⟨b, o, dl, dc, b2, p, sl, sc, rfl, rfl⟩ : ∃ b o dl dc b2 p sl sc, s = .slice (some ⟨b, o, none⟩) dl dc ∧ x = .slice (some ⟨b2, p, none⟩) sl sc := by
          unfold copyF at h
          split at h
          · exact ⟨_, _, _, _, _, _, _, _, rfl, rfl⟩
          · exact False.elim h
        · obtain ⟨blk2, hb2, h⟩ := getF_iff h
          cases blk2 with
          | cells c2 e2 =>
            obtain ⟨h1, h⟩ := dropF_iff h
            obtain ⟨h2, h⟩ := takeF_iff h
            obtain ⟨hone, h⟩ := req_iff h
            obtain ⟨blk, hb, h⟩ := getF_iff h
            cases blk with
            | cells c e3 =>
              obtain ⟨hfit, h⟩ := putF_iff h
              have h := setF_iff h
              cases hvs0 with
              | sl _ b' _ _ _ hμ =>
              cases hvs1 with
              | sl _ b2' _ _ _ hμ2 =>
                obtain ⟨c', hw, hc⟩ := hr.blk _ _ _ _ hb hμ
                obtain ⟨c2', hw2, hc2⟩ := hr.blk _ _ _ _ hb2 hμ2
                have hl' : VRs μ ((c2.drop p).take (Nat.min sl dl)) ((c2'.drop p).take (Nat.min sl dl)) := (hc2.drop p).take _
                obtain ⟨hr', hx'⟩ := hr.setRow hb hμ (hc.lay hl' o)
                have hlen : ((c2'.drop p).take (Nat.min sl dl)).length = Nat.min sl dl := by rw [← hl'.1]; exact List.length_take_of_le h2
                have hrun := run_copy_row (P := P) w t (tys.getD 1 0) type e b' o dl dc ⟨b2', p, none⟩ sl sc c'.toArray e3 ((c2'.drop p).take (Nat.min sl dl)) ((hT.und t i hi).trans (by rw [hd]))
                  (by obtain ⟨f, zv, hf, hfs, _⟩ := hT.info e j hj; simp [hf, hfs, hs1]) hw hlen
                  (fun m x hx => by
                    rw [add_lit, cell_of_row w b2' _ _ e2 _ hw2]
                    rw [List.getElem?_take] at hx
                    split at hx
                    · rw [List.getElem?_drop] at hx; simpa using hx
                    · cases hx)
                  (by rw [← hl'.1]; simp only [List.size_toArray]; rw [← hc.1]; exact hfit) (one_all hone hl')
                have hargs' : args.map a.eval = #[.slice (some ⟨b', o, none⟩) dl dc, .slice (some ⟨b2', p, none⟩) sl sc] := by apply Array.ext'; simpa using hargs
                refine wp_value heq (w' := w.setRow b' (Aw.lay c' o ((c2'.drop p).take (Nat.min sl dl))).toArray) (cv := goInt ((c2'.drop p).take (Nat.min sl dl)).length) ?_ (hn _ _ _ _ _ (by rw [hl'.1]; exact .int _ _) hr' hx' h)
                have hcopy : ∀ tys' : Array TypeId, tys'[0]? = some t → Builtin.copy_ tys' type #[.slice (some ⟨b', o, none⟩) dl dc, .slice (some ⟨b2', p, none⟩) sl sc] = Builtin.copy_ #[t, tys.getD 1 0] type #[.slice (some ⟨b', o, none⟩) dl dc, .slice (some ⟨b2', p, none⟩) sl sc] := fun tys' h' => by
                  unfold Builtin.copy_; simp [h']
                simp only [execOp, resolve, invoke, builtin, hargs', Sem.run_bind, Sem.run_pure, Result.andThen_ok, hcopy tys (by simpa using ht), hrun]
                simp [Aw.lay]
            | _ => exact False.elim h
          | _ => exact False.elim h
    | value f =>
      simp only [Call.operands, Array.toList_append, List.all_append, Bool.and_eq_true, List.all_cons, List.all_nil, Bool.and_true] at ho
      obtain ⟨vf, h, hf⟩ := ev_sound hv h ho.1
      obtain ⟨vs, h, hvs⟩ := evs_sound hv args.toList h ho.2
      obtain ⟨g, b, c, rfl⟩ : ∃ g b c, vf = .func (.func g) b c := by
        split at h
        · exact ⟨_, _, _, rfl⟩
        · exact False.elim h
      generalize hz : a.eval f = z at hf
      cases hf with
      | fn _ _ b' _ c' hb hc rb rc =>
        have hargs : VRs μ (b.toList ++ vs ++ c.toList) (b'.toList ++ args.toList.map a.eval ++ c'.toList) :=
          (VRs.append (VRs.append ⟨by simpa using hb, fun i x y hx hy => rb i x y (by simpa using hx) (by simpa using hy)⟩ hvs) ⟨by simpa using hc, fun i x y hx hy => rc i x y (by simpa using hx) (by simpa using hy)⟩)
        obtain ⟨henter, hcalls⟩ := h.out μ w _ hargs hr
        have hrun : (execOp a.eval { dst := dst, op := .call ⟨.value f, args, tys⟩, type := type, pos := pos, after := after, guard := guard }).run P w = .ok (.enter g (b'.toList ++ args.toList.map a.eval ++ c'.toList).toArray) w := by
          rw [← henter]
          simp only [execOp, resolve, hz, Deferred.ofValue, Sem.run_bind, Sem.run_pure, Result.andThen_ok, invoke]
          congr 2
          apply Array.ext'
          simp
        unfold Oper.wp
        rw [heq, hrun, Oper.upon_enter]
        refine hcalls.mono fun e w' hh => ?_
        obtain ⟨v, cv, μ', H', rfl, hvr, hr', hx', hk⟩ := hh
        exact hn _ _ _ _ _ hvr hr' hx' hk

end
end Go.Aw
