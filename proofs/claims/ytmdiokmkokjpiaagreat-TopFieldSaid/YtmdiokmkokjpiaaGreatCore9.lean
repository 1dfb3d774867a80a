/-
  Regions: in the text's order; and those that draw their order, by a plan.
-/
import Derived.Test.YtmdiokmkokjpiaaGreatCore8
set_option linter.all false
set_option linter.unusedVariables false
set_option linter.unusedSimpArgs false
set_option linter.unnecessarySimpa false
namespace Go.Aw
section
variable {P : Program} {T : Tab}

/-- Where it comes out: a frame and a world of which 'k' tells. -/
def Out (μ0 : List Nat) (H0 : List Blk) (w0 : World) (k : List Value → List Blk → Prop) (a : Act) (w : World) : Prop :=
  ∃ (μ : List Nat) (ts : List Value) (H : List Blk), SRs μ ts a.tmps.toList ∧ Rel μ H w ∧ Ext μ0 H0 w0 μ H w ∧ a.defers = [] ∧ k ts H

/-- Of the exits only the one at the end. -/
def AtEnd (R : Act → World → Prop) : Exit → Act → World → Prop
  | .normal, a, w => R a w
  | _, _, _ => False

theorem put_sound {μ : List Nat} {ts : List Value} {a : Act} (hv : SRs μ ts a.tmps.toList) {dst : Option Tmp} {v cv : Value} (hr : VR μ v cv) {k : List Value → Prop} (h : putDst ts dst v k) :
    ∃ ts', k ts' ∧ SRs μ ts' (a.put dst cv).tmps.toList := by
  cases dst with
  | none => exact ⟨ts, h, hv⟩
  | some d => exact ⟨_, setF_iff h, by simpa [Act.put] using hv.set d hr⟩

theorem want_sound {μ : List Nat} {ts : List Value} {a : Act} {ops : Array Oper} (hv : SRs μ ts a.tmps.toList) {o : Oper} {yes no : Unit → Prop} (h : wantF ops.toList ts o.guard yes no) :
    (Region.wanted o (yielded ops a.tmps) = true ∧ yes ()) ∨ (Region.wanted o (yielded ops a.tmps) = false ∧ no ()) := by
  unfold wantF at h
  unfold Region.wanted
  cases hg : o.guard with
  | none => rw [hg] at h; exact .inl ⟨rfl, h⟩
  | some g =>
    obtain ⟨j, want⟩ := g
    rw [hg] at h
    obtain ⟨oj, hj, h⟩ := getF_iff h
    have hj' : ops[j]? = some oj := by simpa using hj
    simp only
    cases hd : oj.dst with
    | none =>
      simp only [hd] at h
      exact .inr ⟨by simp [yielded, hj', hd], h⟩
    | some d =>
      simp only [hd] at h
      obtain ⟨v, hvd, h⟩ := getF_iff h
      obtain ⟨cv, hcv, hr⟩ := hv.get hvd
      have hcv' : a.tmps[d]? = some cv := by simpa using hcv
      have hy : yielded ops a.tmps j = match cv with | .bool b => some b | _ => none := by
        simp only [yielded, hj', Option.bind_some, hd, hcv']
        cases cv <;> rfl
      split at h
      · rename_i b
        replace hr := sure_of (fun e => by cases e) hr
        cases hr
        rcases bif_iff h with ⟨rfl, h⟩ | ⟨rfl, h⟩
        · exact .inl ⟨by simp [hy], h⟩
        · exact .inr ⟨by simp [hy], h⟩
      · rename_i b
        replace hr := sure_of (fun e => by cases e) hr
        cases hr
        rcases bif_iff h with ⟨rfl, h⟩ | ⟨rfl, h⟩
        · exact .inr ⟨by simp [hy], h⟩
        · exact .inl ⟨by simp [hy], h⟩
      · exact False.elim h
      · rename_i hc
        refine .inr ⟨?_, h⟩
        rw [hy]
        replace hr := sure_of (fun e => by subst e; simp_all) hr
        cases hr <;> simp_all

/-- A quiet operation, in a world that holds the heap: what it gives; what it reads. -/
theorem quiet_here (hT : TabOk P T) (o : Oper) {μ : List Nat} {ts : List Value} {a : Act} {H : List Blk} {w : World} {k : VK} (h : quietF T H ts o.op k) (ho : o.op.operands.toList.all opOk = true) (hv : SRs μ ts a.tmps.toList) (hr : Rel μ H w) :
    ∃ v cv, k v ∧ VR μ v cv ∧ ((isLd o.op = false ∧ ∀ w, (execOp a.eval o).run P w = .ok (.value cv) w) ∨
      ∃ t x i off b l, o.op = .load t x ∧ opV ts x = some (.pointer (some ⟨i, off, none⟩)) ∧ μ[i]? = some b ∧ LdOk T H t i off v ∧ VRs μ (ldl T t v) l ∧ CellsAt b off l w ∧ ∀ w', CellsAt b off l w' → (execOp a.eval o).run P w' = .ok (.value cv) w') := by
  rcases quiet_sound hT o h ho hv with ⟨hl, v, cv, hk, hvr, hrun⟩ | ⟨t, x, i, off, v, ho', hx, hk, hl⟩
  · exact ⟨v, cv, hk, hvr, .inl ⟨hl, hrun⟩⟩
  · have hxo : opOk x = true := by rw [ho'] at ho; simpa [Op.operands] using ho
    obtain ⟨b, hb, hμ⟩ := (opV_sound hv hxo hx).of_ptr
    obtain ⟨l, hvl, hc⟩ := hl.cells μ w b hr hμ
    obtain ⟨cv, hvr, hrun⟩ := ld_run (o := off) (b := b) hT hl hvl
    refine ⟨v, cv, hk, hvr, .inr ⟨t, x, i, off, b, l, ho', hx, hμ, hl, hvl, hc, fun w' hw' => ?_⟩⟩
    obtain ⟨dst, op, type, pos, after, guard⟩ := o
    simp only at ho'
    subst ho'
    simp [execOp, hb, Instr.loadAt, Instr.sureAddr, hrun w' hw']

theorem strPush_eq {f : Value → ByteArray → Sem (ForInStep ByteArray)} (hf : ∀ (n : Int) (r : ByteArray), f (.int .u8 n) r = pure (ForInStep.yield (r.push (UInt8.ofNat n.toNat)))) : ∀ (l : List Int) (s : ByteArray) (w : World),
    (forIn (m := Sem) (l.map fun n => Value.int .u8 n) s f).run P w = .ok (strPush s l) w
  | [], s, w => rfl
  | n :: l, s, w => by
    simp only [List.map_cons, List.forIn_cons, hf, pure_bind]
    exact strPush_eq hf l _ w

theorem ints_of {μ : List Nat} {l : List Int} {c c' : List Value} {o : Nat} (hc : VRs μ c c') (h : ∀ (i : Nat) (x : Int), l[i]? = some x → c[o + i]? = some (.int .u8 x)) (i : Nat) (x : Value) (hx : (l.map fun n => Value.int .u8 n)[i]? = some x) : c'[o + i]? = some x := by
  rw [List.getElem?_map] at hx
  cases hl : l[i]? with
  | none => rw [hl] at hx; cases hx
  | some n =>
    rw [hl] at hx
    cases hx
    obtain ⟨y, hy, hr⟩ := hc.get (h i n hl)
    cases hr; exact hy

theorem convS_sound (hT : TabOk P T) {μ : List Nat} {H : List Blk} {w : World} {s d : TypeId} {x cx : Value} {k : VK} (h : convS T H s d x k) (hx : VR μ x cx) (hr : Rel μ H w) : ∃ v cv, k v ∧ VR μ v cv ∧ (convert s d cx).run P w = .ok cv w := by
  replace h := tinfF_iff h
  obtain ⟨i, hi, h⟩ := h
  replace h := tinfF_iff h
  obtain ⟨j, hj, h⟩ := h
  split at h
  · rename_i e n m hd1 hd2
    obtain ⟨q, hq, h⟩ := tinfF_iff h
    obtain ⟨hu, h⟩ := req_iff h
    have hqd : q.desc = .int .u8 := by unfold isU8 at hu; split at hu <;> simp_all
    cases hx
    refine ⟨_, _, h .empty rfl, .str _, ?_⟩
    simp [convert, hT.underlying hi w, hT.underlying hj w, hT.underlying hq w, hd1, hd2, hqd, Conv.bytesToString]
  · rename_i e b o n m hd1 hd2
    obtain ⟨q, hq, h⟩ := tinfF_iff h
    obtain ⟨hu, h⟩ := req_iff h
    have hqd : q.desc = .int .u8 := by unfold isU8 at hu; split at hu <;> simp_all
    obtain ⟨l, hl, ⟨c, e', hb, hc⟩, h⟩ := h
    cases hx with
    | sl _ cb _ _ _ hμ =>
      obtain ⟨c', hw, hcv⟩ := hr.blk b cb c e' hb hμ
      refine ⟨_, _, h, .str _, ?_⟩
      have h1 := run_loadCells_list (P := P) w ⟨cb, o, none⟩ (l.map fun n => Value.int .u8 n) (fun m x hx => by
        rw [add_lit, cell_of_row w cb _ _ e' _ hw]
        simpa using ints_of hcv hc m x hx)
      rw [List.length_map, hl] at h1
      simp only [convert, Sem.run_bind, hT.underlying hi w, hT.underlying hj w, hT.underlying hq w, hd1, hd2, hqd, Conv.bytesToString, Result.andThen_ok, h1]
      rw [List.forIn_toArray, strPush_eq (P := P) (fun _ _ => rfl)]
      unfold strOf
      rfl
  · cases hx; exact ⟨_, _, h, .str _, by simp [convert, hT.underlying hi w, hT.underlying hj w, *]⟩
  · rename_i kd kx n hd
    cases hx
    refine ⟨_, _, h, .int _ _, ?_⟩
    simp [convert, hT.underlying hi w, hT.underlying hj w, hd, Conv.intToInt]
  · exact False.elim h

/-- A quiet operation, where the order is the text's. -/
theorem quietS_here (hT : TabOk P T) (o : Oper) {μ : List Nat} {ts : List Value} {a : Act} {H : List Blk} {w : World} {k : VK} (h : quietS T H ts o.op k) (ho : o.op.operands.toList.all opOk = true) (hv : SRs μ ts a.tmps.toList) (hr : Rel μ H w) :
    ∃ v cv, k v ∧ VR μ v cv ∧ (execOp a.eval o).run P w = .ok (.value cv) w := by
  have key : quietF T H ts o.op k → ∃ v cv, k v ∧ VR μ v cv ∧ (execOp a.eval o).run P w = .ok (.value cv) w := fun h => by
    obtain ⟨v, cv, h, hvr, hcase⟩ := quiet_here hT o h ho hv hr
    refine ⟨v, cv, h, hvr, ?_⟩
    rcases hcase with ⟨_, hrun⟩ | ⟨t, x, i, off, b, l, _, _, _, _, _, hc, hrun⟩
    · exact hrun w
    · exact hrun w hc
  unfold quietS at h
  split at h
  · rename_i s d x heq
    rw [heq] at ho
    simp only [Op.operands, List.all_cons, List.all_nil, Bool.and_true, Bool.and_eq_true] at ho
    replace h := ev_sound hv h ho
    obtain ⟨vx, h, hx⟩ := h
    obtain ⟨v, cv, hk, hvr, hrun⟩ := convS_sound hT h hx hr
    refine ⟨v, cv, hk, hvr, ?_⟩
    obtain ⟨dst, op, type, pos, after, guard⟩ := o
    simp only at heq
    subst heq
    simp [execOp, hrun]
  · exact key h

theorem ops_sound (hT : TabOk P T) {ops : Array Oper} (hok : ∀ o ∈ ops.toList, o.op.operands.toList.all opOk = true) {μ0 : List Nat} {H0 : List Blk} {w0 : World} {K : List Value → List Blk → Prop} (hl0 : H0.length = μ0.length) :
    ∀ (rest : List Oper) (n : Nat), ops.toList.drop n = rest → ∀ (μ : List Nat) (ts : List Value) (H : List Blk) (a : Act) (w : World), opsF P T ops.toList rest ts H K → SRs μ ts a.tmps.toList → Rel μ H w → Ext μ0 H0 w0 μ H w → a.defers = [] →
      wpOps P ops (AtEnd (Out μ0 H0 w0 K)) (List.range' n rest.length) a w
  | [], n, hd, μ, ts, H, a, w, h, hv, hr, hx, hdef => ⟨μ, ts, H, hv, hr, hx, hdef, h⟩
  | o :: rest, n, hd, μ, ts, H, a, w, h, hv, hr, hx, hdef => by
    have hn : ops[n]? = some o := by
      have := congrArg (fun l => l[0]?) hd
      simp only [List.getElem?_drop, Nat.add_zero, List.getElem?_cons_zero] at this
      simpa using this
    have hd' : ops.toList.drop (n + 1) = rest := by
      have := congrArg (List.drop 1) hd
      simpa [List.drop_drop] using this
    have hoo : o.op.operands.toList.all opOk = true := hok o (by
      have : o ∈ ops.toList.drop n := by rw [hd]; exact List.mem_cons_self ..
      exact List.mem_of_mem_drop this)
    simp only [List.length_cons, List.range'_succ, wpOps, hn]
    unfold opsF at h
    rcases want_sound hv h with ⟨hw, h⟩ | ⟨hw, h⟩
    · rw [if_pos hw]
      left
      cases hq : quietOp o.op with
      | true =>
        simp only [hq] at h
        obtain ⟨v, cv, h, hvr, hrun⟩ := quietS_here hT o h hoo hv hr
        obtain ⟨ts', h, hv'⟩ := put_sound hv hvr h
        refine wp_value (ar := a) rfl hrun (ops_sound hT hok hl0 rest (n + 1) hd' μ ts' H _ w h hv' hr hx ?_)
        unfold Act.put; cases o.dst <;> exact hdef
      | false =>
        simp only [hq] at h
        refine effect_sound hT o (ar := a) rfl h hoo hv hr ?_
        intro v cv μ' H' w' hvr hr' hx' h
        obtain ⟨ts', h, hv'⟩ := put_sound (hv.mono hx'.sub) hvr h
        refine ops_sound hT hok hl0 rest (n + 1) hd' μ' ts' H' _ w' h hv' hr' (hx.trans hl0 hr.len hx') ?_
        unfold Act.put; cases o.dst <;> exact hdef
    · rw [if_neg (by simp [hw])]
      obtain ⟨ts', h, hv'⟩ := put_sound hv VR.undef h
      refine ops_sound hT hok hl0 rest (n + 1) hd' μ ts' H _ w h hv' hr hx ?_
      unfold Act.put; cases o.dst <;> exact hdef

/-- What is kept of what was read. -/
def SeenAs (T : Tab) (s : Seen) (n o : Nat) (c : List Value) : Prop :=
  (∃ len cap : Nat, s.a = .slice (some ⟨n, o, none⟩) len cap ∧ s.v = .agg c.toArray) ∨ (s.a = .pointer (some ⟨n, o, none⟩) ∧ c = ldl T s.t s.v)
def isLoad : Op → Bool
  | .load .. => true
  | .convert .. => true
  | _ => false

theorem ints_flat (μ : List Nat) (l : List Int) : VRs μ (l.map fun n => Value.int .u8 n) (l.map fun n => Value.int .u8 n) := ⟨rfl, fun i x y hx hy => by
  rw [hx] at hy; cases hy
  rw [List.getElem?_map] at hx
  cases h : l[i]? with
  | none => rw [h] at hx; cases hx
  | some n => rw [h] at hx; cases hx; exact .int _ _⟩

theorem convP_sound (hT : TabOk P T) {μ : List Nat} {H : List Blk} {w : World} {s d : TypeId} {x cx : Value} {k : Value → Option (List Value) → Prop} (h : convP T H s d x k) (hx : VR μ x cx) (hr : Rel μ H w) :
    ∃ v cv, VR μ v cv ∧ ((k v none ∧ ∀ w', (convert s d cx).run P w' = .ok cv w') ∨
      ∃ nm o n m b c l, x = .slice (some ⟨nm, o, none⟩) n m ∧ k v (some c) ∧ μ[nm]? = some b ∧ VRs μ c l ∧ CellsAt b o l w ∧ ∀ w', CellsAt b o l w' → (convert s d cx).run P w' = .ok cv w') := by
  replace h := tinfF_iff h
  obtain ⟨i, hi, h⟩ := h
  replace h := tinfF_iff h
  obtain ⟨j, hj, h⟩ := h
  split at h
  · rename_i e n m hd1 hd2
    obtain ⟨q, hq, h⟩ := tinfF_iff h
    obtain ⟨hu, h⟩ := req_iff h
    have hqd : q.desc = .int .u8 := by unfold isU8 at hu; split at hu <;> simp_all
    cases hx
    refine ⟨_, _, .str _, .inl ⟨h .empty rfl, fun w' => ?_⟩⟩
    simp [convert, hT.underlying hi w', hT.underlying hj w', hT.underlying hq w', hd1, hd2, hqd, Conv.bytesToString]
  · rename_i e b o n m hd1 hd2
    obtain ⟨q, hq, h⟩ := tinfF_iff h
    obtain ⟨hu, h⟩ := req_iff h
    have hqd : q.desc = .int .u8 := by unfold isU8 at hu; split at hu <;> simp_all
    obtain ⟨l, hl, ⟨c, e', hb, hc⟩, h⟩ := h
    cases hx with
    | sl _ cb _ _ _ hμ =>
      obtain ⟨c', hw, hcv⟩ := hr.blk b cb c e' hb hμ
      refine ⟨_, _, .str _, .inr ⟨b, o, n, m, cb, _, l.map fun n => Value.int .u8 n, rfl, h, hμ, ints_flat _ _, fun j v hj => ?_, fun w' hw' => ?_⟩⟩
      · rw [cell_of_row w cb _ _ e' _ hw]
        simpa using ints_of hcv hc j v hj
      · have h1 := run_loadCells_list (P := P) w' ⟨cb, o, none⟩ (l.map fun n => Value.int .u8 n) (fun m x hx => by rw [add_lit]; exact hw' m x hx)
        rw [List.length_map, hl] at h1
        simp only [convert, Sem.run_bind, hT.underlying hi w', hT.underlying hj w', hT.underlying hq w', hd1, hd2, hqd, Conv.bytesToString, Result.andThen_ok, h1]
        rw [List.forIn_toArray, strPush_eq (P := P) (fun _ _ => rfl)]
        unfold strOf
        rfl
  · cases hx; exact ⟨_, _, .str _, .inl ⟨h, fun w' => by simp [convert, hT.underlying hi w', hT.underlying hj w', *]⟩⟩
  · rename_i kd kx n hd
    cases hx
    refine ⟨_, _, .int _ _, .inl ⟨h, fun w' => ?_⟩⟩
    simp [convert, hT.underlying hi w', hT.underlying hj w', hd, Conv.intToInt]
  · exact False.elim h

theorem quietP_here (hT : TabOk P T) (o : Oper) {μ : List Nat} {ts : List Value} {a : Act} {H : List Blk} {w : World} {i : Nat} {L : List Seen} {k : Value → List Seen → Prop} (h : quietP T H ts i o.op L k) (ho : o.op.operands.toList.all opOk = true) (hv : SRs μ ts a.tmps.toList) (hr : Rel μ H w) :
    ∃ v cv, VR μ v cv ∧ ((k v L ∧ ∀ w, (execOp a.eval o).run P w = .ok (.value cv) w) ∨
      ∃ (sn : Seen) (nm off b : Nat) (c l : List Value), isLoad o.op = true ∧ sn.i = i ∧ k v (sn :: L) ∧ SeenAs T sn nm off c ∧ μ[nm]? = some b ∧ VRs μ c l ∧ CellsAt b off l w ∧ ∀ w', CellsAt b off l w' → (execOp a.eval o).run P w' = .ok (.value cv) w') := by
  unfold quietP at h
  split at h
  · rename_i t x heq
    rw [heq] at ho
    simp only [Op.operands, List.all_cons, List.all_nil, Bool.and_true] at ho
    obtain ⟨p, hp, h⟩ := ev_iff h
    obtain ⟨nm, off, v, rfl, hk, hl⟩ := load_sound h
    obtain ⟨b, hb, hμ⟩ := (opV_sound hv ho hp).of_ptr
    obtain ⟨l, hvl, hc⟩ := hl.cells μ w b hr hμ
    obtain ⟨cv, hvr, hrun⟩ := ld_run (o := off) (b := b) hT hl hvl
    refine ⟨v, cv, hvr, .inr ⟨_, nm, off, b, _, l, by rw [heq]; rfl, rfl, hk, .inr ⟨rfl, rfl⟩, hμ, hvl, hc, fun w' hw' => ?_⟩⟩
    obtain ⟨dst, op, type, pos, after, guard⟩ := o
    simp only at heq
    subst heq
    simp [execOp, hb, Instr.loadAt, Instr.sureAddr, hrun w' hw']
  · rename_i s d x heq
    rw [heq] at ho
    simp only [Op.operands, List.all_cons, List.all_nil, Bool.and_true] at ho
    obtain ⟨vx, h, hx⟩ := ev_sound hv h ho
    have hrunO : ∀ cv w', (convert s d (a.eval x)).run P w' = .ok cv w' → (execOp a.eval o).run P w' = .ok (.value cv) w' := fun cv w' hw => by
      obtain ⟨dst, op, type, pos, after, guard⟩ := o
      simp only at heq
      subst heq
      simp [execOp, hw]
    obtain ⟨v, cv, hvr, hcase⟩ := convP_sound hT h hx hr
    refine ⟨v, cv, hvr, ?_⟩
    rcases hcase with ⟨hk, hrun⟩ | ⟨nm, off, n, m, b, c, l, rfl, hk, hμ, hcl, hc, hrun⟩
    · exact .inl ⟨hk, fun w' => hrunO _ _ (hrun w')⟩
    · exact .inr ⟨_, nm, off, b, c, l, by rw [heq]; rfl, rfl, hk, .inl ⟨n, m, rfl, rfl⟩, hμ, hcl, hc, fun w' hw' => hrunO _ _ (hrun w' hw')⟩
  · rename_i hnl _
    obtain ⟨v, cv, hk, hvr, hcase⟩ := quiet_here hT o h ho hv hr
    rcases hcase with ⟨_, hrun⟩ | ⟨t, x, i', off, b, l, hop, _⟩
    · exact ⟨v, cv, hvr, .inl ⟨hk, hrun⟩⟩
    · exact absurd hop (hnl t x)

/-! ### A plan -/
def isAlloc : Op → Bool
  | .alloc _ => true
  | _ => false

def liveAfter (ops : Array Oper) (ld : List Nat) (i : Nat) : List Nat := ld.filter fun x => !(waits ops 3 x i)

/-- All but those of which 'f' says so (and 'i') wait for one of which it does not. -/
def othersWait (ops : Array Oper) (f : Nat → Bool) (i : Nat) : Bool :=
  (List.range ops.size).all fun j => f j || j == i || match ops[j]? with
    | some o => o.after.toList.any fun e => Region.binds .any e && !(f e.on)
    | none => true
/-- Likewise; waiting for 'i' counts too. -/
def othersWaitFor (ops : Array Oper) (f : Nat → Bool) (i : Nat) : Bool :=
  (List.range ops.size).all fun j => f j || match ops[j]? with
    | some o => o.after.toList.any fun e => Region.binds .any e && (!(f e.on) || e.on == i)
    | none => true

def chk (ops : Array Oper) (al : List Nat) : Plan → Array Bool → List Nat → Bool
  | [], l, _ => (List.range ops.size).all fun j => l.getD j true
  | (i, ks) :: rest, l, ld => match ops[i]? with
    | none => false
    | some o =>
      (rdy ops l).contains i &&
      (al.all fun x => x == i || l.getD x true || match ops[x]? with | some ox => ox.apart ops o | none => false) &&
      chk ops al rest (l.setIfInBounds i true) (if isLoad o.op then i :: ld else if quietOp o.op || isAlloc o.op then ld else liveAfter ops ld i) &&
      match quietOp o.op with
      | true => Region.free .any ops l i
      | false => match isAlloc o.op with
        | true => o.guard.isNone && o.dst.isSome && othersWaitFor ops (fun j => l.getD j true || al.contains j) i
        | false => othersWait ops (fun j => l.getD j true || al.contains j) i && (liveAfter ops ld i).all fun x => ks.contains x

def allocsOf (ops : Array Oper) : List Nat := (List.range ops.size).filter fun i => match ops[i]? with | some o => isAlloc o.op | none => false

/-- The allocations of a region: no guards, known types, temporaries of their own. -/
def allocsOk (T : Tab) (ops : Array Oper) : Bool :=
  (allocsOf ops).all fun x => match ops[x]? with
    | some o => o.guard.isNone && o.dst.isSome && (match o.op with | .alloc e => (match T[e]? with | some (some _) => true | _ => false) | _ => false) &&
        (allocsOf ops).all fun y => y == x || match ops[y]? with | some o' => o'.dst != o.dst | none => true
    | none => false

def planOk (T : Tab) (ops : Array Oper) (p : Plan) : Bool :=
  Region.noSelect ops && allocsOk T ops && chk ops (allocsOf ops) p (Array.replicate ops.size false) []

end
end Go.Aw
