/-
  'quietF', whole.
-/
import Derived.Test.YtmdiokmkokjpiaaGreatCore6
set_option linter.all false
set_option linter.unusedVariables false
set_option linter.unusedSimpArgs false
set_option linter.unnecessarySimpa false
namespace Go.Aw
section
variable {P : Program} {T : Tab} {μ : List Nat} {ts : List Value} {a : Act}

theorem VR.of_ptr {i o : Nat} {c : Value} (h : VR μ (.pointer (some ⟨i, o, none⟩)) c) : ∃ b, c = .pointer (some ⟨b, o, none⟩) ∧ μ[i]? = some b := by
  cases h with
  | ptr _ b _ h => exact ⟨b, rfl, h⟩

theorem un_sound {op : UnOp} {x cx : Value} {k : VK} (h : unF op x k) (hx : VR μ x cx) : ∃ v cv, k v ∧ VR μ v cv ∧ ∀ w, (Op.unary op cx).run P w = .ok cv w := by
  unfold unF at h
  split at h
  · cases hx; exact ⟨_, _, h, .int _ _, fun w => by simp [Op.unary, Op.intArith]⟩
  · cases hx; exact ⟨_, _, h, .int _ _, fun w => rfl⟩
  · cases hx; exact ⟨_, _, h, .bool _, fun w => rfl⟩
  · exact False.elim h

theorem conv_sound (hT : TabOk P T) {s d : TypeId} {x cx : Value} {k : VK} (h : convF T s d x k) (hx : VR μ x cx) : ∃ v cv, k v ∧ VR μ v cv ∧ ∀ w, (convert s d cx).run P w = .ok cv w := by
  replace h := tinfF_iff h
  obtain ⟨i, hi, h⟩ := h
  replace h := tinfF_iff h
  obtain ⟨j, hj, h⟩ := h
  split at h
  · rename_i kd kx n hd
    cases hx
    refine ⟨_, _, h, .int _ _, fun w => ?_⟩
    simp [convert, hT.underlying hi w, hT.underlying hj w, hd, Conv.intToInt]
  · exact False.elim h

theorem build_sound (hT : TabOk P T) {t : TypeId} {ps ps' : List (Nat × Value)} {k : VK} (h : buildF T t ps k) (hp : VRp μ ps ps') :
    ∃ v cv, k v ∧ VR μ v cv ∧ ∀ w, (Instr.build t ps'.toArray).run P w = .ok cv w := by
  replace h := tinfF_iff h
  obtain ⟨i, hi, h⟩ := h
  obtain ⟨f, z, hf, hs, hb, hz, hzc⟩ := hT.info t i hi
  have hu := hT.und t i hi
  have hz0 := hT.zero t i hi μ
  have hzc' : z.cells = i.zero.toArray := by rw [← hzc]
  split at h
  · rename_i fs hd
    have hpl : ∃ places, fs.toList.mapM (fun f => (P.info? f.type).map fun i => (f.offset, i.size)) = some places := by
      have hall : ∀ f ∈ fs.toList, (P.info? f.type).isSome = true := fun f hf => hT.flds t i fs hi hd f (Array.mem_toList_iff.1 hf)
      clear h
      generalize fs.toList = l at hall
      induction l with
      | nil => exact ⟨[], rfl⟩
      | cons x l ih =>
        obtain ⟨ps, hps⟩ := ih fun f hf => hall f (List.mem_cons_of_mem _ hf)
        obtain ⟨q, hq⟩ := Option.isSome_iff_exists.1 (hall x (List.mem_cons_self ..))
        exact ⟨(x.offset, q.size) :: ps, by simp [List.mapM_cons, hq, hps]⟩
    obtain ⟨places, hpl⟩ := hpl
    have hget : ∀ (n : Nat) (x : Field), fs.toList[n]? = some x → ∃ q, P.info? x.type = some q ∧ places[n]? = some (x.offset, q.size) := by
      clear h
      generalize fs.toList = l at hpl
      intro n x hx
      induction l generalizing n places with
      | nil => simp at hx
      | cons y l ih =>
        simp only [List.mapM_cons, Option.bind_eq_bind, Option.bind_eq_some_iff, Option.map_eq_some_iff, Option.pure_def, Option.some.injEq] at hpl
        obtain ⟨_, ⟨q, hq, rfl⟩, ps, hps, rfl⟩ := hpl
        cases n with
        | zero => simp at hx; subst hx; exact ⟨q, hq, rfl⟩
        | succ n => simp at hx; simpa using ih ps hps n hx
    obtain ⟨r, r', hk, hr, hfill⟩ := fill_sound (μ := μ) (plc := fun n => places.toArray[n]?) (fun n k h => by
      replace h := getF_iff h
      obtain ⟨x, hx, h⟩ := h
      replace h := tinfF_iff h
      obtain ⟨j, hj, h⟩ := h
      obtain ⟨q, hq, hpn⟩ := hget n x hx
      obtain ⟨f', z', hf', hs', _⟩ := hT.info _ _ hj
      rw [hq] at hf'; cases hf'
      exact ⟨_, by simpa [hs'] using hpn, h⟩) ps ps' _ _ _ h hp hz0
    refine ⟨_, .agg r'.toArray, hk, VR.aggs hr, fun w => run_build w t _ _ ?_⟩
    unfold Program.built
    simp only [hf, hu, hd, hz, hpl, hzc']
    exact hfill
  · rename_i n e hd
    replace h := tinfF_iff h
    obtain ⟨j, hj, h⟩ := h
    obtain ⟨f', z', hf', hs', _⟩ := hT.info _ _ hj
    obtain ⟨r, r', hk, hr, hfill⟩ := fill_sound (μ := μ) (plc := fun n => some (n * j.size, j.size)) (fun n k h => ⟨_, rfl, h⟩) ps ps' _ _ _ h hp hz0
    refine ⟨_, .agg r'.toArray, hk, VR.aggs hr, fun w => run_build w t _ _ ?_⟩
    unfold Program.built
    simp only [hf, hu, hd, hz, hf', hs', hzc']
    exact hfill
  · exact False.elim h

theorem fieldAddr_sound (hT : TabOk P T) {s : TypeId} {x cx : Value} {n : Nat} {k : VK} (h : fieldAddrF T s x n k) (hx : VR μ x cx) :
    ∃ v cv, k v ∧ VR μ v cv ∧ ∀ w, (Instr.fieldAt s cx n).run P w = .ok cv w := by
  replace h := tinfF_iff h
  obtain ⟨i, hi, h⟩ := h
  split at h
  · rename_i fs b o hd
    replace h := getF_iff h
    obtain ⟨fd, hfd, h⟩ := h
    replace h := tinfF_iff h
    obtain ⟨j, hj, h⟩ := h
    replace h := req_iff h
    obtain ⟨hz, h⟩ := h
    obtain ⟨c, rfl, hμ⟩ := hx.of_ptr
    refine ⟨_, _, h, .ptr _ _ _ hμ, fun w => ?_⟩
    have hfd' : fs[n]? = some fd := by simpa using hfd
    have hz' : ¬ j.size = 0 := by
      intro e; simp [e] at hz
    simp [Instr.fieldAt, hT.underlying hi w, hd, hfd', Instr.sureAddr, fieldPlace, hT.sizeOf hj w, hz', add_lit]
  · exact False.elim h

theorem field_sound (hT : TabOk P T) {s : TypeId} {x cx : Value} {n : Nat} {k : VK} (h : fieldF T s x n k) (hx : VR μ x cx) :
    ∃ v cv, k v ∧ VR μ v cv ∧ ∀ w, (Instr.field s cx n).run P w = .ok cv w := by
  replace h := tinfF_iff h
  obtain ⟨i, hi, h⟩ := h
  split at h
  · rename_i fs cs hd
    replace h := getF_iff h
    obtain ⟨fd, hfd, h⟩ := h
    obtain ⟨cs', rfl, hc⟩ := hx.of_agg
    obtain ⟨v, cv, hk, hr, hrun⟩ := part_sound hT h hc
    refine ⟨v, cv, hk, hr, fun w => ?_⟩
    have hfd' : fs[n]? = some fd := by simpa using hfd
    have := hrun w
    simp only [Array.toArray_toList] at this
    simp [Instr.field, hT.underlying hi w, hd, hfd', asAgg, this]
  · exact False.elim h

theorem indexAddr_sound (hT : TabOk P T) {t : TypeId} {x cx ix cix : Value} {k : VK} (h : indexAddrF T t x ix k) (hx : VR μ x cx) (hi : VR μ ix cix) :
    ∃ v cv, k v ∧ VR μ v cv ∧ ∀ w, (Instr.indexAt t cx cix).run P w = .ok cv w := by
  replace h := tinfF_iff h
  obtain ⟨i, hti, h⟩ := h
  split at h
  · rename_i n e b o kd j hd
    replace h := req_iff h
    obtain ⟨hj, h⟩ := h
    replace h := tinfF_iff h
    obtain ⟨q, hq, h⟩ := h
    obtain ⟨c, rfl, hμ⟩ := hx.of_ptr
    cases hi
    simp only [Bool.and_eq_true, decide_eq_true_eq] at hj
    refine ⟨_, _, h, .ptr _ _ _ hμ, fun w => ?_⟩
    simp [Instr.indexAt, hT.underlying hti w, hd, asIntOf, Instr.sureAddr, hj, hT.sizeOf hq w, add_lit]
  · rename_i e b o l c0 kd j hd
    replace h := req_iff h
    obtain ⟨hj, h⟩ := h
    replace h := tinfF_iff h
    obtain ⟨q, hq, h⟩ := h
    cases hx with
    | sl _ b' _ _ _ hμ =>
      cases hi
      simp only [Bool.and_eq_true, decide_eq_true_eq] at hj
      refine ⟨_, _, h, .ptr _ _ _ hμ, fun w => ?_⟩
      simp [Instr.indexAt, hT.underlying hti w, hd, asIntOf, hj, hT.sizeOf hq w, add_lit]
  · exact False.elim h

theorem index_sound (hT : TabOk P T) {t : TypeId} {x cx ix cix : Value} {k : VK} (h : indexF T t x ix k) (hx : VR μ x cx) (hi : VR μ ix cix) :
    ∃ v cv, k v ∧ VR μ v cv ∧ ∀ w, (Instr.index t cx cix).run P w = .ok cv w := by
  replace h := tinfF_iff h
  obtain ⟨i, hti, h⟩ := h
  split at h
  · rename_i n e cs kd j hd
    replace h := req_iff h
    obtain ⟨hj, h⟩ := h
    replace h := tinfF_iff h
    obtain ⟨q, hq, h⟩ := h
    obtain ⟨cs', rfl, hc⟩ := hx.of_agg
    cases hi
    obtain ⟨v, cv, hk, hr, hrun⟩ := part_sound hT h hc
    simp only [Bool.and_eq_true, decide_eq_true_eq] at hj
    refine ⟨v, cv, hk, hr, fun w => ?_⟩
    have := hrun w
    simp only [Array.toArray_toList] at this
    simp [Instr.index, hT.underlying hti w, hd, asIntOf, hj, hT.sizeOf hq w, this]
  · rename_i s kd j hd
    replace h := req_iff h
    obtain ⟨hj, h⟩ := h
    cases hx
    cases hi
    simp only [Bool.and_eq_true, decide_eq_true_eq] at hj
    refine ⟨_, _, h, .int _ _, fun w => ?_⟩
    rw [run_index_string w t s kd j ((hT.und t i hti).trans (by rw [hd])), dif_pos hj]
    have h2 : j.toNat < s.size := by omega
    simp only [strAt, ByteArray.getElem?_lt' _ _ h2, Option.getD_some]
  · exact False.elim h

def VRo (μ : List Nat) (v cv : Option Value) : Prop := (v = none ∧ cv = none) ∨ ∃ y cy, v = some y ∧ cv = some cy ∧ VR μ y cy

theorem bounds_sound {len cap : Nat} {lo hi clo chi : Option Value} {k : Nat → Nat → Prop} (b : Bool) (h : sliceF.bounds len cap lo hi k) (hl : VRo μ lo clo) (hh : VRo μ hi chi) :
    ∃ l m, k l m ∧ ∀ w, (Instr.sliceBounds b len cap clo chi none).run P w = .ok (l, m, cap) w := by
  unfold sliceF.bounds at h
  split at h
  · rcases hl with ⟨_, rfl⟩ | ⟨y, cy, e, _⟩
    · rcases hh with ⟨_, rfl⟩ | ⟨y, cy, e, _⟩
      · exact ⟨_, _, h, fun w => by simp [Instr.sliceBounds]⟩
      · cases e
    · cases e
  · rcases hl with ⟨_, rfl⟩ | ⟨y, cy, e, _⟩
    · rcases hh with ⟨e, _⟩ | ⟨y, cy, e, rfl, hv⟩
      · cases e
      · cases e; cases hv
        replace h := req_iff h
        obtain ⟨hj, h⟩ := h
        simp only [Bool.and_eq_true, decide_eq_true_eq] at hj
        exact ⟨_, _, h, fun w => by simp [Instr.sliceBounds, Instr.sliceBound, asIntOf, hj]⟩
    · cases e
  · rcases hh with ⟨_, rfl⟩ | ⟨y, cy, e, _⟩
    · rcases hl with ⟨e, _⟩ | ⟨y, cy, e, rfl, hv⟩
      · cases e
      · cases e; cases hv
        replace h := req_iff h
        obtain ⟨hj, h⟩ := h
        simp only [Bool.and_eq_true, decide_eq_true_eq] at hj
        exact ⟨_, _, h, fun w => by simp [Instr.sliceBounds, Instr.sliceBound, asIntOf, hj]⟩
    · cases e
  · rcases hh with ⟨e, _⟩ | ⟨y, cy, e, rfl, hv⟩
    · cases e
    · cases e; cases hv
      rcases hl with ⟨e, _⟩ | ⟨y, cy, e, rfl, hv⟩
      · cases e
      · cases e; cases hv
        replace h := req_iff h
        obtain ⟨hj, h⟩ := h
        replace h := req_iff h
        obtain ⟨hj2, h⟩ := h
        simp only [Bool.and_eq_true, decide_eq_true_eq] at hj hj2
        refine ⟨_, _, h, fun w => ?_⟩
        simp [Instr.sliceBounds, Instr.sliceBound, asIntOf, hj, hj2]
        intro hlt
        omega
  · exact False.elim h

theorem slice_sound (hT : TabOk P T) {t : TypeId} {x cx : Value} {lo hi mx clo chi cmx : Option Value} {k : VK} (h : sliceF T t x lo hi mx k) (hx : VR μ x cx) (hl : VRo μ lo clo) (hh : VRo μ hi chi) (hm : VRo μ mx cmx) :
    ∃ v cv, k v ∧ VR μ v cv ∧ ∀ w, (Instr.sliceAt t cx clo chi cmx).run P w = .ok cv w := by
  replace h := tinfF_iff h
  obtain ⟨i, hti, h⟩ := h
  split at h
  · rename_i n e b o hd
    rcases hm with ⟨_, rfl⟩ | ⟨y, cy, e, _⟩
    · replace h := tinfF_iff h
      obtain ⟨q, hq, h⟩ := h
      replace h := bounds_sound (P := P) false h hl hh
      obtain ⟨l, m, h, hb⟩ := h
      obtain ⟨c, rfl, hμ⟩ := hx.of_ptr
      refine ⟨_, .slice (some ⟨c, o + (if n = l then 0 else l * q.size), none⟩) (m - l) (n - l), h, .sl _ _ _ _ _ hμ, fun w => ?_⟩
      simp only [Instr.sliceAt, Sem.run_bind, hT.underlying hti w, hd, Result.andThen_ok, Instr.sureAddr, Sem.run_pure, hb w, hT.sizeOf hq w]
      split <;> simp [add_lit]
    · cases e
  · rename_i e b o len cap hd
    rcases hm with ⟨_, rfl⟩ | ⟨y, cy, e, _⟩
    · replace h := tinfF_iff h
      obtain ⟨q, hq, h⟩ := h
      replace h := bounds_sound (P := P) true h hl hh
      obtain ⟨l, m, h, hb⟩ := h
      cases hx with
      | sl _ c _ _ _ hμ =>
        refine ⟨_, .slice (some ⟨c, o + (if cap = l then 0 else l * q.size), none⟩) (m - l) (cap - l), h, .sl _ _ _ _ _ hμ, fun w => ?_⟩
        simp only [Instr.sliceAt, Instr.slice, Sem.run_bind, hT.underlying hti w, hd, Result.andThen_ok, Sem.run_pure, hb w, hT.sizeOf hq w]
        split <;> simp [add_lit]
    · cases e
  · exact False.elim h

theorem min_sound {f : Int → Int → Int} {g : Value → Value → Sem Value} (hg : ∀ k a k' b w, (g (.int k a) (.int k' b)).run P w = .ok (.int k (f a b)) w) :
    ∀ (vs vs' : List Value) (v v' : Value) (k : VK), minF f v vs k → VR μ v v' → VRs μ vs vs' → ∃ r cr, k r ∧ VR μ r cr ∧ ∀ w, (vs'.foldlM g v').run P w = .ok cr w
  | [], vs', v, v', k, h, hv, hs => by
    have : vs' = [] := by have := hs.1; simpa using this.symm
    subst this
    exact ⟨v, v', by cases v <;> exact h, hv, fun w => rfl⟩
  | u :: vs, vs', v, v', k, h, hv, hs => by
    obtain ⟨u', hu', hru⟩ := hs.get (i := 0) rfl
    cases vs' with
    | nil => simp at hu'
    | cons y vs' =>
      simp at hu'; subst hu'
      have hs' : VRs μ vs vs' := by simpa using hs.drop 1
      cases v <;> cases u <;> try (unfold minF at h; exact False.elim h)
      cases hv; cases hru
      obtain ⟨r, cr, hk, hr, hrun⟩ := min_sound hg vs vs' _ _ k h (.int _ _) hs'
      exact ⟨r, cr, hk, hr, fun w => by simp [List.foldlM_cons, hg, hrun w]⟩

def isLd : Op → Bool
  | .load .. => true
  | _ => false

theorem quiet_sound (hT : TabOk P T) (o : Oper) {H : List Blk} {k : VK} (h : quietF T H ts o.op k) (ho : o.op.operands.toList.all opOk = true) (hv : SRs μ ts a.tmps.toList) :
    (isLd o.op = false ∧ ∃ v cv, k v ∧ VR μ v cv ∧ ∀ w, (execOp a.eval o).run P w = .ok (.value cv) w) ∨
    (∃ t x i off v, o.op = .load t x ∧ opV ts x = some (.pointer (some ⟨i, off, none⟩)) ∧ k v ∧ LdOk T H t i off v) := by
  obtain ⟨dst, op, type, pos, after, guard⟩ := o
  simp only at h ho ⊢
  cases op
  case load t x =>
    replace h := ev_iff h
    obtain ⟨p, hp, h⟩ := h
    obtain ⟨i, off, v, rfl, hk, hl⟩ := load_sound h
    exact .inr ⟨t, x, i, off, v, rfl, hp, hk, hl⟩
  all_goals refine .inl ⟨rfl, ?_⟩
  all_goals simp only [Op.operands, List.all_cons, List.all_nil, Bool.and_true, Bool.and_eq_true] at ho
  case move x => obtain ⟨v, hk, hr⟩ := ev_sound hv h ho; exact ⟨v, _, hk, hr, fun w => rfl⟩
  case assign x => obtain ⟨v, hk, hr⟩ := ev_sound hv h ho; exact ⟨v, _, hk, hr, fun w => rfl⟩
  case pick c x y =>
    replace h := ev_sound hv h ho.1
    obtain ⟨q, h, hq⟩ := h
    cases q <;> first | exact False.elim h | skip
    rename_i b
    have hc : a.eval c = .bool b := by generalize a.eval c = z at hq; cases hq; rfl
    rcases bif_iff h with ⟨rfl, h⟩ | ⟨rfl, h⟩
    · obtain ⟨v, hk, hr⟩ := ev_sound hv h ho.2.1; exact ⟨v, _, hk, hr, fun w => by simp [execOp, hc, asBool]⟩
    · obtain ⟨v, hk, hr⟩ := ev_sound hv h ho.2.2; exact ⟨v, _, hk, hr, fun w => by simp [execOp, hc, asBool]⟩
  case build t ps =>
    replace h := evp_sound hv ps.toList h (by simpa using ho)
    obtain ⟨vs, h, hp⟩ := h
    obtain ⟨v, cv, hk, hr, hrun⟩ := build_sound hT h hp
    refine ⟨v, cv, hk, hr, fun w => ?_⟩
    have e : (ps.map fun x => match x with | (i, x) => (i, a.eval x)) = (ps.toList.map fun p => (p.1, a.eval p.2)).toArray := by
      apply Array.ext'; simp
    simp only [execOp, e, Sem.run_bind, hrun w, Result.andThen_ok, Sem.run_pure]
  case nilCheck x =>
    replace h := ev_sound hv h ho
    obtain ⟨q, h, hq⟩ := h
    split at h
    · obtain ⟨b, hb, hμ⟩ := hq.of_ptr
      exact ⟨_, _, h, .ptr _ _ _ hμ, fun w => by simp [execOp, hb]⟩
    · rename_i f c1 c2
      have hq' := hq
      generalize hz : a.eval x = z at hq
      cases hq
      exact ⟨_, _, h, hz ▸ hq', fun w => by simp [execOp, hz]⟩
    · exact False.elim h
  case binOp op t x y u =>
    replace h := ev_sound hv h ho.1
    obtain ⟨vx, h, hx⟩ := h
    replace h := ev_sound hv h ho.2
    obtain ⟨vy, h, hy⟩ := h
    obtain ⟨v, cv, hk, hr, hrun⟩ := bin_sound hT h hx hy
    refine ⟨v, cv, hk, hr, fun w => ?_⟩
    have := hrun w x y
    simp only [execOp]
    rw [Sem.run_bind, this]
    rfl
  case unOp op t x =>
    replace h := ev_sound hv h ho
    obtain ⟨vx, h, hx⟩ := h
    obtain ⟨v, cv, hk, hr, hrun⟩ := un_sound (P := P) h hx
    exact ⟨v, cv, hk, hr, fun w => by simp [execOp, hrun w]⟩
  case convert s d x =>
    replace h := ev_sound hv h ho
    obtain ⟨vx, h, hx⟩ := h
    obtain ⟨v, cv, hk, hr, hrun⟩ := conv_sound hT h hx
    exact ⟨v, cv, hk, hr, fun w => by simp [execOp, hrun w]⟩
  case makeFunc fn f c =>
    cases fn <;> first | exact False.elim h | skip
    rename_i g
    simp only [Array.toList_append, List.all_append, Bool.and_eq_true] at ho
    replace h := evs_sound hv f.toList h ho.1
    obtain ⟨fs, h, hf⟩ := h
    replace h := evs_sound hv c.toList h ho.2
    obtain ⟨cs, h, hc⟩ := h
    refine ⟨_, .func (.func g) (f.map a.eval) (c.map a.eval), h, .fn _ _ _ _ _ (by simpa using hf.1) (by simpa using hc.1) (fun i x y hx hy => hf.2 i x y (by simpa using hx) (by simpa using hy)) (fun i x y hx hy => hc.2 i x y (by simpa using hx) (by simpa using hy)), fun w => rfl⟩
  case slice t x lo hi mx =>
    simp only [Array.toList_append, List.all_append, Bool.and_eq_true, List.all_cons, List.all_nil, Bool.and_true] at ho
    obtain ⟨⟨⟨h1, h2⟩, h3⟩, h4⟩ := ho
    replace h := ev_sound hv h (by simpa using h1)
    obtain ⟨vx, h, hx⟩ := h
    replace h := evo_sound hv lo h (by simpa using h2)
    obtain ⟨vl, h, hl⟩ := h
    replace h := evo_sound hv hi h (by simpa using h3)
    obtain ⟨vh, h, hh⟩ := h
    replace h := evo_sound hv mx h (by simpa using h4)
    obtain ⟨vm, h, hm⟩ := h
    obtain ⟨v, cv, hk, hr, hrun⟩ := slice_sound hT h hx hl hh hm
    exact ⟨v, cv, hk, hr, fun w => by simp [execOp, hrun w]⟩
  case fieldAddr s x f =>
    replace h := ev_sound hv h ho
    obtain ⟨vx, h, hx⟩ := h
    obtain ⟨v, cv, hk, hr, hrun⟩ := fieldAddr_sound hT h hx
    exact ⟨v, cv, hk, hr, fun w => by simp [execOp, hrun w]⟩
  case field s x f =>
    replace h := ev_sound hv h ho
    obtain ⟨vx, h, hx⟩ := h
    obtain ⟨v, cv, hk, hr, hrun⟩ := field_sound hT h hx
    exact ⟨v, cv, hk, hr, fun w => by simp [execOp, hrun w]⟩
  case indexAddr t x i =>
    replace h := ev_sound hv h ho.1
    obtain ⟨vx, h, hx⟩ := h
    replace h := ev_sound hv h ho.2
    obtain ⟨vi, h, hi⟩ := h
    obtain ⟨v, cv, hk, hr, hrun⟩ := indexAddr_sound hT h hx hi
    exact ⟨v, cv, hk, hr, fun w => by simp [execOp, hrun w]⟩
  case index t x i =>
    replace h := ev_sound hv h ho.1
    obtain ⟨vx, h, hx⟩ := h
    replace h := ev_sound hv h ho.2
    obtain ⟨vi, h, hi⟩ := h
    obtain ⟨v, cv, hk, hr, hrun⟩ := index_sound hT h hx hi
    exact ⟨v, cv, hk, hr, fun w => by simp [execOp, hrun w]⟩
  case sliceToArrayPointer arr x =>
    obtain ⟨vx, h, hx⟩ := ev_sound hv h ho
    replace h := tinfF_iff h
    obtain ⟨i, hi, h⟩ := h
    split at h
    · rename_i n e b o len cap hd
      obtain ⟨hq, h⟩ := req_iff h
      have hle := Nat.le_of_ble_eq_true hq
      generalize hz : a.eval x = z at hx
      cases hx with
      | sl _ b' _ _ _ hμ => exact ⟨_, _, h, .ptr _ _ _ hμ, fun w => by simp [execOp, hz, Instr.arrayAt, hT.underlying hi w, hd, show ¬ len < n by omega]⟩
    · exact False.elim h
  case extract x i =>
    replace h := ev_sound hv h ho
    obtain ⟨vx, h, hx⟩ := h
    cases vx <;> first | exact False.elim h | skip
    rename_i vs
    obtain ⟨v, hvs, hk⟩ := getF_iff h
    obtain ⟨vs', he, hs⟩ := hx.of_tup
    obtain ⟨cv, hcv, hr⟩ := hs.get hvs
    have hcv' : vs'[i]? = some cv := by simpa using hcv
    exact ⟨v, cv, hk, hr, fun w => by simp [execOp, he, Instr.extract, hcv']⟩
  case call c =>
    obtain ⟨callee, args, tys⟩ := c
    cases callee <;> first | exact False.elim h | skip
    rename_i b
    simp only [Call.operands, Array.toList_append, List.all_append, Bool.and_eq_true, List.all_nil, true_and] at ho
    cases b <;> first | exact False.elim h | skip
    case len =>
      replace h := getF_iff h
      obtain ⟨t, ht, h⟩ := h
      replace h := getF_iff h
      obtain ⟨x, hx, h⟩ := h
      have hxo : opOk x = true := (List.all_eq_true.1 ho) x (List.mem_of_getElem? hx)
      replace h := ev_sound hv h hxo
      obtain ⟨vx, h, hxr⟩ := h
      replace h := tinfF_iff h
      obtain ⟨i, hi, h⟩ := h
      have ht' : tys[0]? = some t := by simpa using ht
      have hx' : args[0]? = some x := by simpa using hx
      split at h
      · rename_i n e _ hd
        exact ⟨_, _, h, .int _ _, fun w => by simp [execOp, resolve, invoke, builtin, Builtin.len_, ht', hx', hT.underlying hi w, hd, goInt]⟩
      · rename_i e p n c hd
        generalize hz : a.eval x = z at hxr
        cases hxr
        · exact ⟨_, _, h, .int _ _, fun w => by simp [execOp, resolve, invoke, builtin, Builtin.len_, ht', hx', hz, hT.underlying hi w, hd, goInt]⟩
        · exact ⟨_, _, h, .int _ _, fun w => by simp [execOp, resolve, invoke, builtin, Builtin.len_, ht', hx', hz, hT.underlying hi w, hd, goInt]⟩
      · exact False.elim h
    case min =>
      replace h := evs_sound hv args.toList h ho
      obtain ⟨vs, h, hvs⟩ := h
      cases vs with
      | nil => exact False.elim h
      | cons v vs =>
        cases hl : args.toList.map a.eval with
        | nil => rw [hl] at hvs; exact absurd hvs.1 (by simp)
        | cons v' vs' =>
          rw [hl] at hvs
          obtain ⟨r, cr, hk, hr, hrun⟩ := min_sound (μ := μ) (P := P) (g := Builtin.min2) (fun k a k' b w => rfl) vs vs' v v' k h (hvs.2 0 v v' rfl rfl) (by simpa using hvs.drop 1)
          exact ⟨r, cr, hk, hr, fun w => by simp [execOp, resolve, invoke, builtin, Builtin.min_, hl, hrun w]⟩
    case max =>
      replace h := evs_sound hv args.toList h ho
      obtain ⟨vs, h, hvs⟩ := h
      cases vs with
      | nil => exact False.elim h
      | cons v vs =>
        cases hl : args.toList.map a.eval with
        | nil => rw [hl] at hvs; exact absurd hvs.1 (by simp)
        | cons v' vs' =>
          rw [hl] at hvs
          obtain ⟨r, cr, hk, hr, hrun⟩ := min_sound (μ := μ) (P := P) (g := Builtin.max2) (fun k a k' b w => rfl) vs vs' v v' k h (hvs.2 0 v v' rfl rfl) (by simpa using hvs.drop 1)
          exact ⟨r, cr, hk, hr, fun w => by simp [execOp, resolve, invoke, builtin, Builtin.max_, hl, hrun w]⟩
  all_goals exact False.elim h
end
end Go.Aw
