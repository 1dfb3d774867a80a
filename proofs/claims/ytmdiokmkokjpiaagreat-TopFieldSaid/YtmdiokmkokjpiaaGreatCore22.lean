/-
  An iterator that keeps its state in a cell: 'for yield(s) { s = p.next(s) }'.
-/
import Derived.Test.YtmdiokmkokjpiaaGreatCore21
set_option linter.all false
set_option linter.unusedVariables false
set_option linter.unusedSimpArgs false
set_option linter.unnecessarySimpa false
namespace Go.Aw
section
variable {P : Program}

def itOps (tf t tb : TypeId) (pos : String) : Array Oper :=
  #[{ dst := some 4, op := .move (.tmp 0), type := tf, pos := pos, after := #[], guard := none },
    { dst := some 5, op := .load t (.tmp 1), type := t, pos := pos, after := #[], guard := none },
    { dst := some 6, op := .call { callee := .value (.tmp 4), args := #[.tmp 5], argTypes := #[t] }, type := tb, pos := pos,
      after := #[{ on := 0, ground := .data }, { on := 1, ground := .data }], guard := none }]
def stOps (tp t : TypeId) (g : FuncId) (pos : String) : Array Oper :=
  #[{ dst := some 7, op := .load tp (.tmp 2), type := tp, pos := pos, after := #[], guard := none },
    { dst := some 8, op := .load t (.tmp 1), type := t, pos := pos, after := #[], guard := none },
    { dst := some 9, op := .call { callee := .value (.func g), args := #[.tmp 7, .tmp 8], argTypes := #[tp, t] }, type := t, pos := pos,
      after := #[{ on := 0, ground := .data }, { on := 1, ground := .data }], guard := none },
    { dst := none, op := .store t (.tmp 1) (.tmp 9), type := 0, pos := pos,
      after := #[{ on := 2, ground := .data }, { on := 2, ground := .chain }, { on := 0, ground := .phase }, { on := 1, ground := .phase }, { on := 2, ground := .phase }], guard := none }]
def itCode (tf t tb tp : TypeId) (g : FuncId) (p1 p2 : String) : Code :=
  .block 0 (.loop (.seq (.seq (.region 0 (itOps tf t tb p1) false) (.cond (.tmp 6) .skip (.exit 0))) (.block 1 (.region 1 (stOps tp t g p2) false))))

/-- The iterator's temporaries. -/
def itTmps (l : Nat) (b0 b1 a4 a5 a6 a7 a8 a9 : Value) : Array Value := #[.func (.yield l) #[] #[], b0, b1, undef, a4, a5, a6, a7, a8, a9]

theorem wanted_plain {o : Oper} {y : Nat → Option Bool} (hg : o.guard = none) : Region.wanted o y = true := by simp [Region.wanted, hg]
section
variable {n : Nat} {ops : Array Oper} {Q : Exit → Act → World → Prop} {i : Nat} {rest : List Nat} {o : Oper} {a : Act} {w w' : World}
theorem opsIn_wp (ho : ops[i]? = some o) (hg : o.guard = none) (h : o.wpIn Fence.wide n P a w (wpOpsIn Fence.wide n P ops Q rest) Q) : wpOpsIn Fence.wide n P ops Q (i :: rest) a w := by
  unfold wpOpsIn
  simp only [ho]
  rw [if_pos (wanted_plain hg)]
  exact h
theorem opsIn_value {v : Value} (ho : ops[i]? = some o) (hg : o.guard = none) (hrun : (execOp a.eval o).run P w = .ok (.value v) w') (h : wpOpsIn Fence.wide n P ops Q rest (a.put o.dst v) w') : wpOpsIn Fence.wide n P ops Q (i :: rest) a w :=
  opsIn_wp ho hg ⟨fun _ _ => trivial, by show o.uponIn Fence.wide n P a _ Q ((execOp a.eval o).run P w); rw [hrun]; exact h⟩
theorem opsIn_skip (ho : ops[i]? = some o) (hg : o.guard = none) (hrun : (execOp a.eval o).run P w = .ok .skip w') (h : wpOpsIn Fence.wide n P ops Q rest (a.put o.dst undef) w') : wpOpsIn Fence.wide n P ops Q (i :: rest) a w :=
  opsIn_wp ho hg ⟨fun _ _ => trivial, by show o.uponIn Fence.wide n P a _ Q ((execOp a.eval o).run P w); rw [hrun]; exact h⟩
theorem opsIn_call {f : FuncId} {args : Array Value} {R : Ending → World → Prop} (ho : ops[i]? = some o) (hg : o.guard = none) (hrun : (execOp a.eval o).run P w = .ok (.enter f args) w') (hc : Calls P f args w' R)
    (h : ∀ e w'', R e w'' → ∃ v, e = .returned v ∧ wpOpsIn Fence.wide n P ops Q rest (a.put o.dst v) w'') : wpOpsIn Fence.wide n P ops Q (i :: rest) a w :=
  opsIn_wp ho hg ⟨fun _ _ => trivial, by
    show o.uponIn Fence.wide n P a _ Q ((execOp a.eval o).run P w); rw [hrun]
    refine ⟨fun hx => by simp [Fence.wide] at hx, callsIn_wide.2 (hc.mono fun e w'' hr => ?_)⟩
    obtain ⟨v, rfl, hk⟩ := h e w'' hr
    exact hk⟩
theorem RoundIn.room {n m : Nat} {l : Nat} {f : FuncId} {tmps : Array Value} {asg body : Code} {R : Ending → World → Prop} (h : RoundIn Fence.wide n P l f tmps asg body w R) : RoundIn Fence.wide m P l f tmps asg body w R :=
  ⟨h.1, fun c cs _ => h.2 c cs (room_wide _)⟩
theorem RoundIn.mono' {n : Nat} {l : Nat} {f : FuncId} {tmps : Array Value} {asg body : Code} {R R' : Ending → World → Prop} (h : RoundIn Fence.wide n P l f tmps asg body w R) (hr : ∀ e w, R e w → R' e w) : RoundIn Fence.wide n P l f tmps asg body w R' :=
  ⟨h.1, fun c cs hx => let ⟨e, w', h1, h2⟩ := h.2 c cs hx; ⟨e, w', hr _ _ h1, h2⟩⟩
theorem opsIn_round {l : Nat} {f : FuncId} {tmps : Array Value} {asg body : Code} {R : Ending → World → Prop} (ho : ops[i]? = some o) (hg : o.guard = none) (hrun : (execOp a.eval o).run P w = .ok (.round l f tmps asg body) w') (hc : RoundIn Fence.wide (n - 1) P l f tmps asg body w' R)
    (h : ∀ e w'', R e w'' → ∃ v, e = .returned v ∧ wpOpsIn Fence.wide n P ops Q rest (a.put o.dst v) w'') : wpOpsIn Fence.wide n P ops Q (i :: rest) a w :=
  opsIn_wp ho hg ⟨fun _ _ => trivial, by
    show o.uponIn Fence.wide n P a _ Q ((execOp a.eval o).run P w); rw [hrun]
    refine ⟨fun hx => by simp [Fence.wide] at hx, RoundIn.mono' hc fun e w'' hr => ?_⟩
    obtain ⟨v, rfl, hk⟩ := h e w'' hr
    exact hk⟩
end

theorem states_iter {tf t tb tp : TypeId} {g f : FuncId} {p1 p2 : String} {fn : Func} (hf : P.funcs[f]? = some fn) (hb : fn.body = some (itCode tf t tb tp g p1 p2)) (hnt : fn.ntmps = 10) (hres : fn.results = #[])
    (hg : ∀ (args : Array Value) (w : World), (callFunc g args).run P w = .ok (.enter g args) w)
    (c0 c1 : Addr) (l N : Nat) (J JY : Nat → World → Prop) (Jx : World → Prop) (st : Nat → Value) (pv : Value)
    (hload : ∀ k W, J k W → (Instr.loadAt t (.pointer (some c0))).run P W = .ok (st k) W)
    (hyield : ∀ k W, k < N → J k W → YieldAt Fence.wide 0 P l #[st k] W fun e W' => (e = .returned (.bool true) ∧ k + 1 < N ∧ JY k W') ∨ (e = .returned (.bool false) ∧ Jx W'))
    (hloadp : ∀ k W, JY k W → (Instr.loadAt tp (.pointer (some c1))).run P W = .ok pv W)
    (hload2 : ∀ k W, JY k W → (Instr.loadAt t (.pointer (some c0))).run P W = .ok (st k) W)
    (hnext : ∀ k W, JY k W → Calls P g #[pv, st k] W fun e W' => e = .returned (st (k + 1)) ∧ ∃ W'', (Instr.storeAt t (.pointer (some c0)) (st (k + 1))).run P W' = .ok () W'' ∧ J (k + 1) W'')
    (W : World) (hN : 0 < N) (h0 : J 0 W) :
    CallsIn Fence.wide 0 P f #[.func (.yield l) #[] #[], .pointer (some c0), .pointer (some c1)] W fun e W' => (∃ v, e = .returned v) ∧ Jx W' := by
  refine callsIn_of_wp hf hb trivial ?_
  rw [hnt]
  refine wpIn_block (wpIn_loop_rounds N ?_)
  have key : ∀ (m k : Nat) (a4 a5 a6 a7 a8 a9 : Value) (W : World), k + m = N → 0 < m → J k W →
      Code.roundsIn Fence.wide 0 P (.seq (.seq (.region 0 (itOps tf t tb p1) false) (.cond (.tmp 6) .skip (.exit 0))) (.block 1 (.region 1 (stOps tp t g p2) false)))
        (Exit.inBlock 0 (bodyPost P fn fun e W' => (∃ v, e = .returned v) ∧ Jx W')) m { tmps := itTmps l (.pointer (some c0)) (.pointer (some c1)) a4 a5 a6 a7 a8 a9, defers := [] } W := by
    intro m
    induction m with
    | zero => intro k a4 a5 a6 a7 a8 a9 W _ hm; omega
    | succ m ih =>
      intro k a4 a5 a6 a7 a8 a9 W hkm _ hJ
      rw [roundsIn_succ]
      refine wpIn_seq (wpIn_seq (wpIn_region ?_))
      obtain ⟨fn', tmps', asg', body', hy, hR⟩ := hyield k W (by omega) hJ
      refine opsIn_value rfl rfl (v := .func (.yield l) #[] #[]) (w' := W) (by simp [execOp, itOps, stOps, itTmps, Act.eval]) ?_
      refine opsIn_value rfl rfl (v := st k) (w' := W) (by
        have := hload k W hJ
        simp [execOp, itOps, stOps, itTmps, Act.eval, Act.put, this]) ?_
      refine opsIn_round rfl rfl (l := l) (f := fn') (tmps := tmps') (asg := asg') (body := body') (w' := W) (by
        simp [execOp, itOps, stOps, itTmps, Act.eval, Act.put, resolve, Deferred.ofValue, Sem.run_bind, invoke, hy]) hR ?_
      rintro e W1 (⟨rfl, hk1, hJ1⟩ | ⟨rfl, hJ1⟩)
      · refine ⟨_, rfl, ?_⟩
        refine wpIn_cond_true (by simp [Act.eval, Act.put, itTmps, itOps, stOps]) (wpIn_skip ?_)
        refine wpIn_block (wpIn_region ?_)
        refine opsIn_value rfl rfl (v := pv) (w' := W1) (by
          have := hloadp k W1 hJ1
          simp [execOp, itOps, stOps, itTmps, Act.eval, Act.put, this]) ?_
        refine opsIn_value rfl rfl (v := st k) (w' := W1) (by
          have := hload2 k W1 hJ1
          simp [execOp, itOps, stOps, itTmps, Act.eval, Act.put, this]) ?_
        refine opsIn_call rfl rfl (f := g) (args := #[pv, st k]) (w' := W1) (by
          simp [execOp, itOps, stOps, itTmps, Act.eval, Act.put, resolve, Deferred.ofValue, Sem.run_bind, invoke, hg]) (hnext k W1 hJ1) ?_
        rintro e W2 ⟨rfl, W3, hs, hJ2⟩
        refine ⟨_, rfl, ?_⟩
        refine opsIn_skip rfl rfl (w' := W3) (by
          simp [execOp, itOps, stOps, itTmps, Act.eval, Act.put, hs]) ?_
        exact ih (k + 1) _ _ _ _ _ _ W3 (by omega) (by omega) hJ2
      · refine ⟨_, rfl, ?_⟩
        refine wpIn_cond_false (by simp [Act.eval, Act.put, itTmps, itOps, stOps]) (wpIn_exit ?_)
        simp only [Exit.then, Exit.inBlock, if_true]
        refine ⟨rfl, .tuple #[], ?_, ⟨_, rfl⟩, hJ1⟩
        simp [results, hres]
  exact key N 0 undef undef undef undef undef undef W (by omega) hN h0
end
end Go.Aw
