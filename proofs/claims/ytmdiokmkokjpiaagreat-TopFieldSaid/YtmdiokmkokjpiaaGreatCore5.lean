/-
  The operations that only compute or read.
-/
import Derived.Laws.Strings
import Derived.Test.YtmdiokmkokjpiaaGreatCore4
set_option linter.all false
set_option linter.unusedVariables false
set_option linter.unusedSimpArgs false
set_option linter.unnecessarySimpa false
namespace Go.Aw
section
variable {P : Program} {T : Tab} {μ : List Nat}

theorem eqFields_sound (hT : TabOk P T) {d : Nat}
    (rec : ∀ (t : TypeId) (x y cx cy : Value) (k : Bool → Prop), eqF T d t x y k → VR μ x cx → VR μ y cy → ∃ b, k b ∧ ∀ w, (Op.equalIn d t cx cy).run P w = .ok b w)
    {xs ys xs' ys' : List Value} (hx : VRs μ xs xs') (hy : VRs μ ys ys') : ∀ (fs : List Field) (k : Bool → Prop), eqFields (eqF T d) T xs ys fs k →
    ∃ b, k b ∧ ∀ w, (Op.eqFields d xs'.toArray ys'.toArray fs).run P w = .ok b w
  | [], k, h => ⟨true, h, fun w => by simp [Op.eqFields]⟩
  | f :: fs, k, h => by
    unfold eqFields at h
    cases hn : (f.name == "_") with
    | true =>
      simp only [hn] at h
      obtain ⟨b, hb, hr⟩ := eqFields_sound hT rec hx hy fs k h
      refine ⟨b, hb, fun w => ?_⟩
      have : f.name = "_" := by simpa using hn
      simp [Op.eqFields, this, hr w]
    | false =>
      simp only [hn] at h
      obtain ⟨u, cu, h, hu, ru⟩ := part_sound hT h hx
      obtain ⟨v, cv, h, hv, rv⟩ := part_sound hT h hy
      obtain ⟨b, h, rb⟩ := rec _ _ _ _ _ _ h hu hv
      obtain ⟨c, h, rc⟩ := eqFields_sound hT rec hx hy fs _ h
      refine ⟨b && c, h, fun w => ?_⟩
      have : f.name ≠ "_" := by simpa using hn
      simp only [Op.eqFields, this, ne_eq, not_false_eq_true, if_true, Sem.run_bind, ru w, rv w, rb w, Result.andThen_ok]
      cases b
      · simp
      · simpa using rc w

theorem eqElems_sound (hT : TabOk P T) {d : Nat}
    (rec : ∀ (t : TypeId) (x y cx cy : Value) (k : Bool → Prop), eqF T d t x y k → VR μ x cx → VR μ y cy → ∃ b, k b ∧ ∀ w, (Op.equalIn d t cx cy).run P w = .ok b w)
    {xs ys xs' ys' : List Value} (hx : VRs μ xs xs') (hy : VRs μ ys ys') (e : TypeId) (s : Nat) : ∀ (n j : Nat) (k : Bool → Prop), eqElems (eqF T d) T xs ys e s n j k →
    ∃ b, k b ∧ ∀ w, (Op.eqItems d e s xs'.toArray ys'.toArray (List.range' j n)).run P w = .ok b w
  | 0, j, k, h => ⟨true, h, fun w => by simp [Op.eqItems]⟩
  | n + 1, j, k, h => by
    unfold eqElems at h
    obtain ⟨u, cu, h, hu, ru⟩ := part_sound hT h hx
    obtain ⟨v, cv, h, hv, rv⟩ := part_sound hT h hy
    obtain ⟨b, h, rb⟩ := rec _ _ _ _ _ _ h hu hv
    obtain ⟨c, h, rc⟩ := eqElems_sound hT rec hx hy e s n (j + 1) _ h
    refine ⟨b && c, h, fun w => ?_⟩
    simp only [List.range'_succ, Op.eqItems, Sem.run_bind, ru w, rv w, rb w, Result.andThen_ok]
    cases b
    · simp
    · simpa using rc w

theorem eqElems_of {d : Nat} {e : TypeId} {j : TInf} (hj : T[e]? = some (some j)) (hd : isByte j.desc = true) (hs : j.size = 1) {xs ys : List Value} (hx : xs.all byt8 = true) (hy : ys.all byt8 = true) :
    ∀ (n m : Nat) (k : Bool → Prop), m + n = xs.length → m + n = ys.length → k (eqInts (xs.drop m) (ys.drop m)) → eqElems (eqF T (d + 1)) T xs ys e 1 n m k
  | 0, m, k, h1, h2, h => by
    rw [List.drop_eq_nil_of_le (by omega), List.drop_eq_nil_of_le (by omega)] at h
    exact h
  | n + 1, m, k, h1, h2, h => by
    have hjd : j.desc = .int .u8 := by unfold isByte at hd; split at hd <;> simp_all
    obtain ⟨a, ha⟩ : ∃ a, xs[m]? = some (.int .u8 a) := by
      have hm : m < xs.length := by omega
      have := (List.all_eq_true.1 hx) _ (List.getElem_mem hm)
      rw [List.getElem?_eq_getElem hm]
      unfold byt8 at this
      split at this
      · rename_i a heq; exact ⟨a, by rw [heq]⟩
      · cases this
    obtain ⟨b, hb⟩ : ∃ b, ys[m]? = some (.int .u8 b) := by
      have hm : m < ys.length := by omega
      have := (List.all_eq_true.1 hy) _ (List.getElem_mem hm)
      rw [List.getElem?_eq_getElem hm]
      unfold byt8 at this
      split at this
      · rename_i a heq; exact ⟨a, by rw [heq]⟩
      · cases this
    have hp : ∀ (cs : List Value) (v : Value) (K : VK), cs[m]? = some v → K v → partF T e cs (m * 1) K := fun cs v K hv hk => by
      unfold partF
      refine getF_of hj ?_
      dsimp only
      rw [hjd]
      exact getF_of (by rw [Nat.mul_one]; exact hv) hk
    unfold eqElems
    refine hp xs _ _ ha (hp ys _ _ hb ?_)
    have hq : ∀ K : Bool → Prop, K (a == b) → eqF T (d + 1) e (.int .u8 a) (.int .u8 b) K := fun K hK => by
      unfold eqF
      refine getF_of hj ?_
      dsimp only
      rw [hjd]
      show Req (decide (IntKind.u8 = IntKind.u8)) _
      exact hK
    refine hq _ (eqElems_of hj hd hs hx hy n (m + 1) _ (by omega) (by omega) ?_)
    have e1 : xs.drop m = .int .u8 a :: xs.drop (m + 1) := by
      have hm : m < xs.length := by omega
      rw [List.drop_eq_getElem_cons hm]
      rw [Option.some.inj ((List.getElem?_eq_getElem hm).symm.trans ha)]
    have e2 : ys.drop m = .int .u8 b :: ys.drop (m + 1) := by
      have hm : m < ys.length := by omega
      rw [List.drop_eq_getElem_cons hm]
      rw [Option.some.inj ((List.getElem?_eq_getElem hm).symm.trans hb)]
    rw [e1, e2] at h
    exact h

theorem eq_sound (hT : TabOk P T) : ∀ (d : Nat) (t : TypeId) (x y cx cy : Value) (k : Bool → Prop), eqF T d t x y k → VR μ x cx → VR μ y cy →
    ∃ b, k b ∧ ∀ w, (Op.equalIn d t cx cy).run P w = .ok b w
  | 0, _, _, _, _, _, _, h, _, _ => False.elim h
  | d + 1, t, x, y, cx, cy, k, h0, hx, hy => by
    obtain ⟨i, hi, h⟩ := tinfF_iff h0
    clear h0
    have hu := hT.und t i hi
    split at h
    · rename_i a b hd
      cases hx; cases hy
      exact ⟨_, h, fun w => run_equalIn_bool' w d t _ _ (hu.trans (by rw [hd]))⟩
    · rename_i q ka a kb b hd
      cases hx; cases hy
      obtain ⟨hk, g⟩ := req_iff h
      have hk := of_decide_eq_true hk
      subst hk
      exact ⟨_, g, fun w => run_equalIn_int w d t _ _ _ _ (hu.trans (by rw [hd]))⟩
    · rename_i e b hd
      cases hx
      refine ⟨_, h, fun w => ?_⟩
      cases hy <;> simp [Op.equalIn, run_underlying (hu.trans (congrArg some hd))]
    · rename_i e a hd
      cases hy
      refine ⟨_, h, fun w => ?_⟩
      cases hx
      simp [Op.equalIn, run_underlying (hu.trans (congrArg some hd))]
    · rename_i fs xs ys hd
      obtain ⟨xs', rfl, hx'⟩ := hx.of_agg
      obtain ⟨ys', rfl, hy'⟩ := hy.of_agg
      obtain ⟨hq, h⟩ := req_iff h
      obtain ⟨b, hb, hr⟩ := eqFields_sound hT (fun t x y cx cy k => eq_sound hT d t x y cx cy k) hx' hy' fs.toList k h
      have hf : P.fieldsOf t = fs := by simp [Program.fieldsOf, hu, hd]
      refine ⟨b, hb, fun w => ?_⟩
      rw [run_equalIn_struct w d t xs' ys' (by rw [hf, hu, hd]) (hT.eq t i hi hq).2, hf]
      simpa using hr w
    · rename_i n e xs ys hd
      obtain ⟨xs', rfl, hx'⟩ := hx.of_agg
      obtain ⟨ys', rfl, hy'⟩ := hy.of_agg
      obtain ⟨hq, h⟩ := req_iff h
      obtain ⟨j, hj, h⟩ := tinfF_iff h
      have h : eqElems (eqF T d) T xs.toList ys.toList e j.size n 0 k := by
        split at h
        · obtain ⟨hq, h9⟩ := req_iff h
          clear h
          simp only [Bool.and_eq_true] at hq
          obtain ⟨⟨⟨⟨⟨⟨q1, q2⟩, q3⟩, q4⟩, q5⟩, q6⟩, q7⟩ := hq
          have q3 := Nat.eq_of_beq_eq_true q3
          have q4 := Nat.eq_of_beq_eq_true q4
          have q5 := Nat.eq_of_beq_eq_true q5
          cases d with
          | zero => cases q1
          | succ d =>
            rw [q3]
            unfold eqRow at h9
            exact eqElems_of hj q2 q3 q6 q7 n 0 k (by omega) (by omega) (by simpa using h9)
        · exact h
      obtain ⟨b, hb, hr⟩ := eqElems_sound hT (fun t x y cx cy k => eq_sound hT d t x y cx cy k) hx' hy' e j.size n 0 k h
      obtain ⟨f, z, hf, _⟩ := hT.info e j hj
      refine ⟨b, hb, fun w => ?_⟩
      rw [run_equalIn_array w d xs' ys' (hu.trans (by rw [hd])) hf, hT.cellsOf hj, List.range_eq_range']
      simpa using hr w
    · exact False.elim h

theorem eqG_sound (hT : TabOk P T) {t : TypeId} {x y cx cy : Value} {k : Bool → Prop} (h : binF.eqG T t x y k) (hx : VR μ x cx) (hy : VR μ y cy) :
    ∃ b, k b ∧ ∀ (w : World) (ox oy : Operand), (eqGuard .eql t ox oy cx cy).run P w = .ok () w ∧ (eqGuard .neq t ox oy cx cy).run P w = .ok () w ∧
      (binOp .eql t cx cy).run P w = .ok (.bool b) w ∧ (binOp .neq t cx cy).run P w = .ok (.bool (!b)) w := by
  unfold binF.eqG at h
  split at h
  · cases hx; cases hy
    obtain ⟨b, hb, hr⟩ := eq_sound (μ := μ) hT _ _ _ _ _ _ _ h (.bool _) (.bool _)
    refine ⟨b, hb, fun w ox oy => ⟨by rw [eqGuard_at_bool]; rfl, by rw [eqGuard_at_bool]; rfl, ?_, ?_⟩⟩
    · have := hr w; simp [binOp, Op.equal, Op.maxDepth, this]
    · have := hr w; simp [binOp, Op.equal, Op.maxDepth, this]
  · obtain ⟨b, hb, hr⟩ := eq_sound (μ := μ) hT _ _ _ _ _ _ _ h hx hy
    cases hx <;> cases hy
    all_goals
      refine ⟨b, hb, fun w ox oy => ⟨by rw [eqGuard_at_pointer]; rfl, by rw [eqGuard_at_pointer]; rfl, ?_, ?_⟩⟩
      · have := hr w; simp [binOp, Op.equal, Op.maxDepth, this]
      · have := hr w; simp [binOp, Op.equal, Op.maxDepth, this]
  · obtain ⟨i, hi, h⟩ := tinfF_iff h
    obtain ⟨hq, h⟩ := req_iff h
    obtain ⟨b, hb, hr⟩ := eq_sound (μ := μ) hT _ _ _ _ _ _ _ h hx hy
    obtain ⟨xs', rfl, _⟩ := hx.of_agg
    obtain ⟨ys', rfl, _⟩ := hy.of_agg
    have hg := (hT.eq t i hi hq).1
    refine ⟨b, hb, fun w ox oy => ⟨run_eqGuard_agg w _ t ox oy _ _ hg, run_eqGuard_agg w _ t ox oy _ _ hg, ?_, ?_⟩⟩
    · rw [run_eql_struct, hr w]; rfl
    · rw [run_neq_struct, hr w]; rfl
  · exact False.elim h

theorem bin_sound (hT : TabOk P T) {op : BinOp} {t : TypeId} {x y cx cy : Value} {k : VK} (h : binF T op t x y k) (hx : VR μ x cx) (hy : VR μ y cy) :
    ∃ v cv, k v ∧ VR μ v cv ∧ ∀ (w : World) (ox oy : Operand), (do eqGuard op t ox oy cx cy; binOp op t cx cy : Sem Value).run P w = .ok cv w := by
  unfold binF at h
  split at h
  case h_18 =>
    cases hx; cases hy
    refine ⟨_, _, h, .bool _, fun w ox oy => ?_⟩
    have hg : ∀ b : BinOp, ∀ s r : ByteArray, (eqGuard b t ox oy (.string s) (.string r)).run P w = .ok () w := fun b s r => by cases b <;> rfl
    simp [hg, binOp, Op.stringOp, strEq, ByteArray.toList_eq]
  case h_19 =>
    cases hx; cases hy
    refine ⟨_, _, h, .bool _, fun w ox oy => ?_⟩
    have hg : ∀ b : BinOp, ∀ s r : ByteArray, (eqGuard b t ox oy (.string s) (.string r)).run P w = .ok () w := fun b s r => by cases b <;> rfl
    simp [hg, binOp, Op.stringOp, strEq, ByteArray.toList_eq]
  case h_20 =>
    obtain ⟨b, hb, hr⟩ := eqG_sound hT h hx hy
    exact ⟨_, _, hb, .bool b, fun w ox oy => by obtain ⟨h1, h2, h3, h4⟩ := hr w ox oy; simp [h1, h3]⟩
  case h_21 =>
    obtain ⟨b, hb, hr⟩ := eqG_sound hT h hx hy
    exact ⟨_, _, hb, .bool (!b), fun w ox oy => by obtain ⟨h1, h2, h3, h4⟩ := hr w ox oy; simp [h2, h4]⟩
  case h_22 => exact False.elim h
  case h_1 | h_2 =>
    cases hx; cases hy
    obtain ⟨hk, h⟩ := req_iff h
    have hk := of_decide_eq_true hk
    refine ⟨_, _, h, .int _ _, fun w ox oy => ?_⟩
    have hn : ¬ (_ : Int) < 0 := Int.not_lt.2 hk
    simp [eqGuard_at_int, binOp, Op.shift, hn]
  case h_6 | h_7 =>
    cases hx; cases hy
    obtain ⟨hk, g⟩ := req_iff h
    simp only [Bool.and_eq_true, decide_eq_true_eq, Bool.not_eq_true', beq_eq_false_iff_ne] at hk
    obtain ⟨hk, hz⟩ := hk
    subst hk
    refine ⟨_, _, g, .int _ _, fun w ox oy => ?_⟩
    simp [eqGuard_at_int, binOp, Op.intDiv, hz]
  all_goals
    cases hx; cases hy
    obtain ⟨hk, g⟩ := req_iff h
    have hk := of_decide_eq_true hk
    subst hk
    first
      | (refine ⟨_, _, g, .int _ _, fun w ox oy => ?_⟩; simp [eqGuard_at_int, binOp, Op.intArith]; done)
      | (refine ⟨_, _, g, .int _ _, fun w ox oy => ?_⟩; simp only [eqGuard_at_int, binOp, Sem.run_bind, Sem.run_pure, Result.andThen_ok]; simp; rfl)
      | (refine ⟨_, _, g, .bool _, fun w ox oy => ?_⟩; simp [eqGuard_at_int, binOp, Op.intCmp]; done)

end
end Go.Aw
