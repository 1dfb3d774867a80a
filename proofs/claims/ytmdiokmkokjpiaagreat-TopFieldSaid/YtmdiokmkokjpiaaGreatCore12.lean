/-
  Code, whole; functions; contracts used in a larger heap.
-/
import Derived.Test.YtmdiokmkokjpiaaGreatCore11
import Derived.LoopN
set_option linter.all false
set_option linter.unusedVariables false
set_option linter.unusedSimpArgs false
set_option linter.unnecessarySimpa false
namespace Go.Aw
section
variable {P : Program} {T : Tab}

def lookupH : Hints → Nat → Option Plan
  | [], _ => none
  | (j, p) :: hs, i => match Nat.beq j i with | true => some p | false => lookupH hs i

theorem hint_iff {hs : Hints} {i : Nat} {k : Plan → Prop} (h : hintF hs i k) : ∃ p, lookupH hs i = some p ∧ k p := by
  induction hs with
  | nil => exact False.elim h
  | cons x hs ih =>
    obtain ⟨j, p⟩ := x
    unfold hintF at h
    unfold lookupH
    cases hb : Nat.beq j i with
    | true => simp only [hb] at h; exact ⟨p, rfl, h⟩
    | false => simp only [hb] at h; exact ih h

def opsOk (ops : Array Oper) : Bool := ops.toList.all fun o => o.op.operands.toList.all opOk

/-- What is asked of a function's code, once and for all. -/
def codeOk (T : Tab) (hs : Hints) : Code → Bool
  | .skip => true
  | .region _ ops false => opsOk ops
  | .region id ops true => opsOk ops && match lookupH hs id with | some p => planOk T ops p | none => false
  | .seq a b => codeOk T hs a && codeOk T hs b
  | .cond c a b => opOk c && codeOk T hs a && codeOk T hs b
  | .block _ c => codeOk T hs c
  | .loop c => codeOk T hs c
  | .exit _ => true
  | .ret => true
  | _ => false

/-- Where code comes out. -/
def OutX (μ0 : List Nat) (H0 : List Blk) (w0 : World) (K : AK) : Exit → Act → World → Prop
  | .normal, a, w => Out μ0 H0 w0 (K .normal) a w
  | .exit id, a, w => Out μ0 H0 w0 (K (.exit id)) a w
  | .ret, a, w => Out μ0 H0 w0 (K .ret) a w
  | _, _, _ => False

theorem Out.mono {μ0 : List Nat} {H0 : List Blk} {w0 : World} {k k' : List Value → List Blk → Prop} (hk : ∀ ts H, k ts H → k' ts H) {a : Act} {w : World} (h : Out μ0 H0 w0 k a w) : Out μ0 H0 w0 k' a w := by
  obtain ⟨μ, ts, H, h1, h2, h3, h4, h5⟩ := h
  exact ⟨μ, ts, H, h1, h2, h3, h4, hk _ _ h5⟩

theorem Out.trans {μ0 μ1 : List Nat} {H0 H1 : List Blk} {w0 w1 : World} (hl0 : H0.length = μ0.length) (hl1 : H1.length = μ1.length) (hx : Ext μ0 H0 w0 μ1 H1 w1) {k : List Value → List Blk → Prop} {a : Act} {w : World} (h : Out μ1 H1 w1 k a w) : Out μ0 H0 w0 k a w := by
  obtain ⟨μ, ts, H, h1, h2, h3, h4, h5⟩ := h
  exact ⟨μ, ts, H, h1, h2, hx.trans hl0 hl1 h3, h4, h5⟩

theorem OutX.trans {μ0 μ1 : List Nat} {H0 H1 : List Blk} {w0 w1 : World} (hl0 : H0.length = μ0.length) (hl1 : H1.length = μ1.length) (hx : Ext μ0 H0 w0 μ1 H1 w1) {K : AK} (e : Exit) (a : Act) (w : World) (h : OutX μ1 H1 w1 K e a w) : OutX μ0 H0 w0 K e a w := by
  cases e <;> first | exact Out.trans hl0 hl1 hx h | exact h

theorem of_atEnd {μ0 : List Nat} {H0 : List Blk} {w0 : World} {K : AK} (e : Exit) (a : Act) (w : World) (h : AtEnd (Out μ0 H0 w0 (K .normal)) e a w) : OutX μ0 H0 w0 K e a w := by
  cases e <;> first | exact h | exact False.elim h

theorem blt_lt {i n : Nat} (h : Nat.blt i n = true) : i < n := by
  have h1 : i + 1 ≤ n := by simpa [Nat.blt] using h
  omega

theorem VR.cut {μ ν : List Nat} {n : Nat} (hs : ∀ i b, i < n → μ[i]? = some b → ν[i]? = some b) : ∀ (d : Nat) (v cv : Value), bdv d n v = true → VR μ v cv → VR ν v cv
  | 0, _, _, h, _ => by simp [bdv] at h
  | d + 1, v, cv, h, hr => by
    have all : ∀ (c c' : Array Value), c.toList.all (bdv d n) = true → (∀ (i : Nat) (x y : Value), c[i]? = some x → c'[i]? = some y → VR μ x y) → ∀ (i : Nat) (x y : Value), c[i]? = some x → c'[i]? = some y → VR ν x y := fun c c' hc hr i x y hx hy =>
      VR.cut hs d x y ((List.all_eq_true.1 hc) x (Array.mem_toList_iff.2 (Array.mem_of_getElem? hx))) (hr i x y hx hy)
    cases hr with
    | bool b => exact .bool b
    | int k m => exact .int k m
    | str s => exact .str s
    | ptrN => exact .ptrN
    | ptr i b o hi => exact .ptr i b o (hs i b (blt_lt h) hi)
    | slN l c => exact .slN l c
    | sl i b o l c hi => exact .sl i b o l c (hs i b (blt_lt h) hi)
    | fn f a a' c c' ha hc ra rc =>
      simp only [bdv, Bool.and_eq_true] at h
      exact .fn f a a' c c' ha hc (all a a' h.1 ra) (all c c' h.2 rc)
    | nilF => exact .nilF
    | nilI => exact .nilI
    | ifc t v v' hv => exact .ifc t v v' (VR.cut hs d v v' (by simpa [bdv] using h) hv)
    | agg c c' hc rc => exact .agg c c' hc (all c c' (by simpa [bdv] using h) rc)
    | tup c c' hc rc => exact .tup c c' hc (all c c' (by simpa [bdv] using h) rc)


theorem fadeS_iff {n : Nat} : ∀ {l m : List Value}, fadeS n l m → l.length = m.length ∧ ∀ (i : Nat) (w : Value), m[i]? = some w → w = junk ∨ (l[i]? = some w ∧ bdv 6 n w = true)
  | [], [], _ => ⟨rfl, by simp⟩
  | [], _ :: _, h => by simp [fadeS] at h
  | _ :: _, [], h => by simp [fadeS] at h
  | v :: l, w :: m, h => by
    unfold fadeS at h
    split at h
    · rename_i heq; simp at heq
    · rename_i heq heq2
      cases heq; cases heq2
      obtain ⟨h1, h2⟩ := fadeS_iff h
      refine ⟨by simp [h1], fun i w hi => ?_⟩
      cases i with
      | zero => simp at hi; exact .inl hi.symm
      | succ i => simpa using h2 i w (by simpa using hi)
    · rename_i heq heq2
      cases heq; cases heq2
      obtain ⟨hb, rfl, h⟩ := h
      obtain ⟨h1, h2⟩ := fadeS_iff h
      refine ⟨by simp [h1], fun i w hi => ?_⟩
      cases i with
      | zero => simp at hi; subst hi; exact .inr ⟨rfl, hb⟩
      | succ i => simpa using h2 i w (by simpa using hi)
    · exact False.elim h

theorem fadeH_iff {n : Nat} : ∀ {H2 H0 H : List Blk}, fadeH n H0 H H2 → H2.length ≤ H.length ∧ ∀ (i : Nat) (b : Blk), H2[i]? = some b → (∃ c e, b = .cells c e ∧ H[i]? = some b ∧ c.all (bdv 6 n) = true) ∨ (∃ f, b = .ro f ∧ H[i]? = some b ∧ H0[i]? = some b) ∨ b = .gone
  | [], _, _, _ => ⟨by simp, by simp⟩
  | b2 :: H2, H0, H, h => by
    cases H with
    | nil => cases H0 <;> cases b2 <;> simp [fadeH] at h
    | cons b H =>
      cases b2 with
      | cells c e =>
        have h' : c.all (bdv 6 n) = true ∧ b = .cells c e ∧ fadeH n H0.tail H H2 := by cases H0 <;> simpa [fadeH] using h
        clear h
        obtain ⟨h1, rfl, h9⟩ := h'
        obtain ⟨h2, h3⟩ := fadeH_iff h9
        refine ⟨by simp; omega, fun i b hi => ?_⟩
        cases i with
        | zero => simp at hi; subst hi; exact .inl ⟨c, e, rfl, rfl, h1⟩
        | succ i =>
          have := h3 i b (by simpa using hi)
          cases H0 with
          | nil => simpa using this
          | cons x H0 => simpa using this
      | ro f =>
        cases H0 with
        | nil => simp [fadeH] at h
        | cons x H0 =>
          obtain ⟨rfl, rfl, h⟩ := h
          obtain ⟨h2, h3⟩ := fadeH_iff h
          refine ⟨by simp; omega, fun i b hi => ?_⟩
          cases i with
          | zero => simp at hi; subst hi; exact .inr (.inl ⟨f, rfl, rfl, rfl⟩)
          | succ i => simpa using h3 i b (by simpa using hi)
      | gone =>
        have h' : fadeH n H0.tail H H2 := by cases H0 <;> simpa [fadeH] using h
        obtain ⟨h2, h3⟩ := fadeH_iff h'
        refine ⟨by simp; omega, fun i b hi => ?_⟩
        cases i with
        | zero => simp at hi; exact .inr (.inr hi.symm)
        | succ i =>
          have := h3 i b (by simpa using hi)
          cases H0 with
          | nil => simpa using this
          | cons x H0 => simpa using this

/-- What is forgotten. -/
theorem fade_sound {μ0 : List Nat} {H0 : List Blk} {w0 : World} (hr0 : Rel μ0 H0 w0) {μ : List Nat} {ts tmps : List Value} {H : List Blk} {w : World} {ts2 : List Value} {H2 : List Blk} (hv : SRs μ ts tmps) (hr : Rel μ H w) (hx : Ext μ0 H0 w0 μ H w) (hf : Fade H0 ts H ts2 H2) :
    ∃ μ2, SRs μ2 ts2 tmps ∧ Rel μ2 H2 w ∧ Ext μ0 H0 w0 μ2 H2 w := by
  rcases hf with hf | hf
  case inr => exact hf _ _ _ _ _ hr0 hv hr hx
  obtain ⟨hlen, hS, hH⟩ := hf
  replace hlen := Nat.le_of_ble_eq_true hlen
  obtain ⟨hl1, hS⟩ := fadeS_iff hS
  obtain ⟨hl2, hH⟩ := fadeH_iff hH
  have hget : ∀ i, i < H2.length → (μ.take H2.length)[i]? = μ[i]? := fun i hi => by rw [List.getElem?_take, if_pos hi]
  have hlt : ∀ {i b}, (μ.take H2.length)[i]? = some b → i < H2.length ∧ μ[i]? = some b := fun {i b} hi => by
    rw [List.getElem?_take] at hi
    split at hi
    · exact ⟨‹_›, hi⟩
    · cases hi
  have hs : ∀ i b, i < H2.length → μ[i]? = some b → (μ.take H2.length)[i]? = some b := fun i b hi hb => by rw [hget i hi]; exact hb
  have hμl : (μ.take H2.length).length = H2.length := by rw [List.length_take, ← hr.len]; omega
  refine ⟨μ.take H2.length, ⟨by rw [← hl1, hv.1], fun i x y hx' hy => ?_⟩, ⟨hμl.symm, (List.take_sublist _ _).nodup hr.nd, fun b hb => hr.lt b (List.mem_of_mem_take hb), ?_, ?_⟩, ?_⟩
  · rcases hS i x hx' with h | ⟨h1, h2⟩
    · exact .inl h
    · rcases hv.2 i x y h1 hy with h | h
      · exact .inl h
      · exact .inr (h.cut hs 6 _ _ h2)
  · intro i b c e hi hμ
    obtain ⟨hil, hμ⟩ := hlt hμ
    rcases hH i _ hi with ⟨c1, e1, h1, h2, h3⟩ | ⟨f, h1, _⟩ | h1
    · cases h1
      obtain ⟨c', hw, hc⟩ := hr.blk i b c e h2 hμ
      exact ⟨c', hw, hc.1, fun j x y hx' hy => (hc.2 j x y hx' hy).cut hs 6 _ _ ((List.all_eq_true.1 h3) x (List.mem_of_getElem? hx'))⟩
    · cases h1
    · cases h1
  · intro i b f hi hμ o v hfo
    obtain ⟨hil, hμ⟩ := hlt hμ
    rcases hH i _ hi with ⟨c1, e1, h1, _⟩ | ⟨f1, h1, h2, h3⟩ | h1
    · cases h1
    · cases h1
      have hi0 : i < H0.length := (List.getElem?_eq_some_iff.1 h3).1
      have hμ0 : μ0[i]? = some b := by
        obtain ⟨ext, rfl, _⟩ := hx.pre
        rw [List.getElem?_append_left (by rw [← hr0.len]; exact hi0)] at hμ; exact hμ
      obtain ⟨v', hc, hvr⟩ := hr0.rob i b f h3 hμ0 o v hfo
      refine ⟨v', ?_, hvr.mono fun j d hj => ?_⟩
      · rw [cell?_of_heap_eq (hx.same b (hr0.lt b (List.mem_of_getElem? hμ0)) ?_)]
        · exact hc
        · rintro ⟨j, c, e, hj, hc⟩
          have := nodup_inj hr0.nd hμ0 hj
          subst this
          rw [h3] at hc; cases hc
      · have hjl : j < H2.length := by have := (List.getElem?_eq_some_iff.1 hj).1; rw [← hr0.len] at this; omega
        rw [hget j hjl]; exact hx.sub _ _ hj
    · cases h1
  · obtain ⟨ext, rfl, hext⟩ := hx.pre
    refine ⟨⟨ext.take (H2.length - μ0.length), ?_, fun b hb => hext b (List.mem_of_mem_take hb)⟩, hx.size, hx.os, hx.tape, hx.output, hx.same, fun i c e hi hc => ?_⟩
    · rw [List.take_append, List.take_of_length_le (by rw [← hr0.len]; exact hlen)]
    · rcases hH i _ hc with ⟨c1, e1, h1, h2, _⟩ | ⟨f, h1, _⟩ | h1
      · cases h1; exact hx.own i c e hi h2
      · cases h1
      · cases h1

theorem code_sound (hT : TabOk P T) (hs : Hints) : ∀ (c : Code) (K : AK) (ts : List Value) (H : List Blk), codeOk T hs c = true → AWp P T hs c K ts H →
    ∀ (μ : List Nat) (a : Act) (w : World), SRs μ ts a.tmps.toList → Rel μ H w → a.defers = [] → c.wp P (OutX μ H w K) a w := by
  intro c
  induction c with
  | skip => intro K ts H _ h μ a w hv hr hd; exact wp_skip ⟨μ, ts, H, hv, hr, Ext.refl _ _ _, hd, h⟩
  | region id ops draw =>
    intro K ts H ho h μ a w hv hr hd
    cases draw with
    | false =>
      have hok : ∀ o ∈ ops.toList, o.op.operands.toList.all opOk = true := fun o hm => (List.all_eq_true.1 ho) o hm
      have := ops_sound (μ0 := μ) (H0 := H) (w0 := w) (K := K .normal) hT hok hr.len ops.toList 0 rfl μ ts H a w h hv hr (Ext.refl _ _ _) hd
      refine wp_mono (wp_region (id := id) ?_) fun e a w h => of_atEnd e a w h
      rw [List.range_eq_range']
      simpa using this
    | true =>
      simp only [codeOk, Bool.and_eq_true] at ho
      have hok : ∀ o ∈ ops.toList, o.op.operands.toList.all opOk = true := fun o hm => (List.all_eq_true.1 ho.1) o hm
      obtain ⟨p, hp, h⟩ := hint_iff h
      have hpl : planOk T ops p = true := by have := ho.2; rw [hp] at this; exact this
      exact wp_mono (region_draw hT hpl hok h hv hr hd) fun e a w h => of_atEnd e a w h
  | seq x y ihx ihy =>
    intro K ts H ho h μ a w hv hr hd
    simp only [codeOk, Bool.and_eq_true] at ho
    refine wp_seq (wp_mono (ihx _ ts H ho.1 h μ a w hv hr hd) fun e a1 w1 h1 => ?_)
    cases e with
    | normal =>
      obtain ⟨μ1, ts1, H1, hv1, hr1, hx1, hd1, h1⟩ := h1
      exact wp_mono (ihy K ts1 H1 ho.2 h1 μ1 a1 w1 hv1 hr1 hd1) fun e a w h => OutX.trans hr.len hr1.len hx1 e a w h
    | exit id => exact h1
    | ret => exact h1
    | goto l => exact h1
    | panic c => exact h1
    | outgrown => exact h1
  | cond c x y ihx ihy =>
    intro K ts H ho h μ a w hv hr hd
    simp only [codeOk, Bool.and_eq_true] at ho
    obtain ⟨v, h, hcv⟩ := ev_sound hv h ho.1.1
    obtain ⟨b, rfl⟩ : ∃ b, v = .bool b := by
      split at h
      · exact ⟨_, rfl⟩
      · exact False.elim h
    have hc : a.eval c = .bool b := by generalize a.eval c = z at hcv; cases hcv; rfl
    rcases bif_iff h with ⟨rfl, h⟩ | ⟨rfl, h⟩
    · exact wp_cond_true hc (ihx K ts H ho.1.2 h μ a w hv hr hd)
    · exact wp_cond_false hc (ihy K ts H ho.2 h μ a w hv hr hd)
  | block id c ih =>
    intro K ts H ho h μ a w hv hr hd
    refine wp_block (wp_mono (ih _ ts H ho h μ a w hv hr hd) fun e a1 w1 h1 => ?_)
    cases e with
    | normal => exact h1
    | exit j =>
      simp only [OutX, Exit.inBlock] at h1 ⊢
      cases hj : Nat.beq j id with
      | true =>
        simp only [hj] at h1
        rw [if_pos (Nat.eq_of_beq_eq_true hj)]
        exact h1
      | false =>
        simp only [hj] at h1
        rw [if_neg (fun e => by rw [e] at hj; simp at hj)]
        exact h1
    | ret => exact h1
    | goto l => exact h1
    | panic c => exact h1
    | outgrown => exact h1
  | loop c ih =>
    intro K ts H ho h μ a w hv hr hd
    rcases h with ⟨n, h⟩ | ⟨n, ts2, H2, hf, h⟩
    case fade =>
      refine wp_loop_rounds n ?_
      have key : ∀ (n : Nat) (ts : List Value) (H1 : List Blk) (μ1 : List Nat) (a1 : Act) (w1 : World), roundsF (AWp P T hs c) K H n ts H1 → SRs μ1 ts a1.tmps.toList → Rel μ1 H1 w1 → a1.defers = [] → Ext μ H w μ1 H1 w1 → Code.rounds P c (OutX μ H w K) n a1 w1 := by
        intro n
        induction n with
        | zero => intro ts H1 μ1 a1 w1 h; exact False.elim h
        | succ n ihn =>
          intro ts H1 μ1 a1 w1 h hv1 hr1 hd1 hx1
          rw [rounds_succ]
          refine wp_mono (ih _ ts H1 ho h μ1 a1 w1 hv1 hr1 hd1) fun e a2 w2 h2 => ?_
          cases e with
          | normal =>
            obtain ⟨μ2, ts2, H2, hv2, hr2, hx2, hd2, ts3, H3, hf3, h3⟩ := h2
            obtain ⟨μ3, hv3, hr3, hx3⟩ := fade_sound hr hv2 hr2 (hx1.trans hr.len hr1.len hx2) hf3
            exact ihn ts3 H3 μ3 a2 w2 h3 hv3 hr3 hd2 hx3
          | exit id => exact Out.trans hr.len hr1.len hx1 h2
          | ret => exact Out.trans hr.len hr1.len hx1 h2
          | goto l => exact h2
          | panic c => exact h2
          | outgrown => exact h2
      obtain ⟨μ2, hv2, hr2, hx2⟩ := fade_sound hr hv hr (Ext.refl _ _ _) hf
      exact key n ts2 H2 μ2 a w h hv2 hr2 hd hx2
    refine wp_loop_rounds n ?_
    have key : ∀ (n : Nat) (ts : List Value) (H1 : List Blk) (μ1 : List Nat) (a1 : Act) (w1 : World), rounds (AWp P T hs c) K n ts H1 → SRs μ1 ts a1.tmps.toList → Rel μ1 H1 w1 → a1.defers = [] → Ext μ H w μ1 H1 w1 → Code.rounds P c (OutX μ H w K) n a1 w1 := by
      intro n
      induction n with
      | zero => intro ts H1 μ1 a1 w1 h; exact False.elim h
      | succ n ihn =>
        intro ts H1 μ1 a1 w1 h hv1 hr1 hd1 hx1
        rw [rounds_succ]
        refine wp_mono (ih _ ts H1 ho h μ1 a1 w1 hv1 hr1 hd1) fun e a2 w2 h2 => ?_
        cases e with
        | normal =>
          obtain ⟨μ2, ts2, H2, hv2, hr2, hx2, hd2, h2⟩ := h2
          exact ihn ts2 H2 μ2 a2 w2 h2 hv2 hr2 hd2 (hx1.trans hr.len hr1.len hx2)
        | exit id => exact Out.trans hr.len hr1.len hx1 h2
        | ret => exact Out.trans hr.len hr1.len hx1 h2
        | goto l => exact h2
        | panic c => exact h2
        | outgrown => exact h2
    exact key n ts H μ a w h hv hr hd (Ext.refl _ _ _)
  | exit id => intro K ts H _ h μ a w hv hr hd; exact wp_exit ⟨μ, ts, H, hv, hr, Ext.refl _ _ _, hd, h⟩
  | ret => intro K ts H _ h μ a w hv hr hd; exact wp_ret ⟨μ, ts, H, hv, hr, Ext.refl _ _ _, hd, h⟩
  | _ => intro K ts H ho; simp [codeOk] at ho

/-! ### What a function hands back -/
def resStep (tmps : Array Value) : ResultVar → Sem Value
  | .tmp t => pure (tmps.getD t undef)
  | .cell a t => do loadVar t (← asAddr (tmps.getD a undef))

theorem res_sound (hT : TabOk P T) {μ : List Nat} {ts : List Value} {H : List Blk} {tmps : Array Value} {w : World} (hv : SRs μ ts tmps.toList) (hr : Rel μ H w) : ∀ (rs : List ResultVar) {k : List Value → Prop}, resF T H ts rs k →
    ∃ vs cvs, k vs ∧ VRs μ vs cvs ∧ (rs.mapM (resStep tmps)).run P w = .ok cvs w
  | [], k, h => ⟨[], [], h, VRs.nil, rfl⟩
  | .tmp t :: rs, k, h => by
    obtain ⟨v, hvt, h⟩ := getF_iff h
    obtain ⟨hj, h⟩ := sure_iff h
    obtain ⟨cv, hcv, hvr⟩ := hv.get hvt
    replace hvr := sure_of hj hvr
    obtain ⟨vs, cvs, hk, hvs, hrun⟩ := res_sound hT hv hr rs h
    have : tmps[t]? = some cv := by simpa using hcv
    exact ⟨v :: vs, cv :: cvs, hk, VRs.cons hvr hvs, by simp [List.mapM_cons, resStep, this, hrun]⟩
  | .cell a t :: rs, k, h => by
    obtain ⟨p, hp, h⟩ := getF_iff h
    obtain ⟨hj, h⟩ := sure_iff h
    obtain ⟨cp, hcp, hpr⟩ := hv.get hp
    replace hpr := sure_of hj hpr
    obtain ⟨i, o, v, rfl, h, hl⟩ := load_sound h
    obtain ⟨b, rfl, hμ⟩ := hpr.of_ptr
    obtain ⟨l, hvl, hc⟩ := hl.cells μ w b hr hμ
    obtain ⟨cv, hvr, hrun0⟩ := ld_run (o := o) (b := b) hT hl hvl
    obtain ⟨vs, cvs, hk, hvs, hrun⟩ := res_sound hT hv hr rs h
    have : tmps[a]? = some (.pointer (some ⟨b, o, none⟩)) := by simpa using hcp
    exact ⟨v :: vs, cv :: cvs, hk, VRs.cons hvr hvs, by simp [List.mapM_cons, resStep, this, asAddr, hrun0 w hc, hrun]⟩

theorem results_eq (fn : Func) (tmps : Array Value) : results fn tmps = (do let vs ← fn.results.mapM (resStep tmps); pure (if h : vs.size = 1 then vs[0] else .tuple vs)) := by
  unfold results
  congr 2

theorem ACalls.intro (hT : TabOk P T) (hs : Hints) {f : FuncId} {fn : Func} {c : Code} {args : List Value} {H : List Blk} {R : Value → List Blk → Prop} (hf : P.funcs[f]? = some fn) (hb : fn.body = some c)
    (hcall : ∀ (args : Array Value) (w : World), (callFunc f args).run P w = .ok (.enter f args) w) (hok : codeOk T hs c = true)
    (h : AWp P T hs c (postF T fn.results.toList R) (args ++ List.replicate (fn.ntmps - args.length) undef) H) : ACalls P f args H R := by
  refine ⟨fun μ w cargs hv hr => ⟨hcall _ _, calls_of_wp hf hb ?_⟩⟩
  have hv' : VRs μ (args ++ List.replicate (fn.ntmps - args.length) undef) ((cargs.toArray ++ Array.replicate (fn.ntmps - cargs.toArray.size) undef).toList) := by
    simp only [Array.toList_append, Array.toList_replicate, List.size_toArray]
    rw [hv.1]
    exact hv.append (VRs.replicate _ VR.undef)
  refine wp_mono (code_sound hT hs c _ _ H hok h μ _ w hv'.sr hr rfl) fun e a w' ho => ?_
  have fin : ∀ {e : Ex}, (∀ id, e ≠ .exit id) → Out μ H w (postF T fn.results.toList R e) a w' → a.defers = [] ∧ ∃ v, (results fn a.tmps).run P w' = .ok v w' ∧ ∃ (v' cv : Value) (μ' : List Nat) (H' : List Blk), Ending.returned v = .returned cv ∧ VR μ' v' cv ∧ Rel μ' H' w' ∧ Ext μ H w μ' H' w' ∧ R v' H' := fun {e} he ho => by
    obtain ⟨μ1, ts1, H1, hv1, hr1, hx1, hd1, h1⟩ := ho
    have h2 : resF T H1 ts1 fn.results.toList fun vs => match vs with | [v] => R v H1 | vs => R (.tuple vs.toArray) H1 := by
      cases e with
      | exit id => exact absurd rfl (he id)
      | normal => exact h1
      | ret => exact h1
    obtain ⟨vs, cvs, hk, hvs, hrun⟩ := res_sound hT hv1 hr1 _ h2
    refine ⟨hd1, ?_⟩
    have hm : (fn.results.mapM (resStep a.tmps)).run P w' = .ok cvs.toArray w' := by
      rw [Array.mapM_eq_mapM_toList]
      simp [hrun]
    cases vs with
    | nil =>
      have hc0 : cvs = [] := by have := hvs.1; simpa using this.symm
      subst hc0
      exact ⟨.tuple #[], by rw [results_eq]; simp [hm], _, _, μ1, H1, rfl, VR.tups VRs.nil, hr1, hx1, hk⟩
    | cons v vs =>
      cases cvs with
      | nil => exact absurd hvs.1 (by simp)
      | cons cv cvs =>
        cases vs with
        | nil =>
          have hc0 : cvs = [] := by have := hvs.1; simpa using this.symm
          subst hc0
          exact ⟨cv, by rw [results_eq]; simp [hm], _, _, μ1, H1, rfl, hvs.2 0 _ _ rfl rfl, hr1, hx1, hk⟩
        | cons v2 vs =>
          cases cvs with
          | nil => exact absurd hvs.1 (by simp)
          | cons cv2 cvs => exact ⟨.tuple (cv :: cv2 :: cvs).toArray, by rw [results_eq]; simp [hm], _, _, μ1, H1, rfl, VR.tups hvs, hr1, hx1, hk⟩
  cases e with
  | normal => exact fin (e := .normal) (by simp) ho
  | ret => exact fin (e := .ret) (by simp) ho
  | exit id =>
    obtain ⟨_, _, _, _, _, _, _, h5⟩ := ho
    exact False.elim h5
  | goto l => exact False.elim ho
  | panic c => exact False.elim ho
  | outgrown => exact False.elim ho

theorem ACalls.mono {f : FuncId} {args : List Value} {H : List Blk} {R R' : Value → List Blk → Prop} (h : ACalls P f args H R) (hr : ∀ v H', R v H' → R' v H') : ACalls P f args H R' :=
  ⟨fun μ w cargs hv hrel => by
    obtain ⟨h1, h2⟩ := h.out μ w cargs hv hrel
    refine ⟨h1, h2.mono fun e w' hh => ?_⟩
    obtain ⟨v, cv, μ', H', he, h3, h4, h5, h6⟩ := hh
    exact ⟨v, cv, μ', H', he, h3, h4, h5, hr _ _ h6⟩⟩

end
end Go.Aw
