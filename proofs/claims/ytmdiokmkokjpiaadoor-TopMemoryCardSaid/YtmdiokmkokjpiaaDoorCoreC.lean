/-
  Walks through the functions of the program, by contract.
-/
import Derived.Test.YtmdiokmkokjpiaaDoorCoreB
import Derived.ProofKit
import Derived.OpenShut
import Derived.Deep.Slices
set_option linter.all false
set_option linter.unusedVariables false
set_option linter.unusedSimpArgs false
set_option linter.unnecessarySimpa false
section
/-
  Contracts: what is forgotten at the end; a contract over a small heap, used in a larger one; loops.
-/
set_option linter.unusedSectionVars false
namespace Go.Aw
variable [Base]
section
variable {P : Program} {T : Tab}

/-- The blocks that stood at the beginning name no younger ones. -/
def tidyF (n : Nat) : List Blk → List Blk → (Unit → Prop) → Prop
  | [], _, k => k ()
  | b0 :: H, b :: H', k => match b with
    | .cells c _ => Req (c.all (bdv 6 n)) fun _ => tidyF n H H' k
    | .ro f => Blk.ro f = b0 ∧ tidyF n H H' k
    | .gone => tidyF n H H' k
  | _ :: _, [], _ => False

/-- What is new is forgotten. -/
def Tidy (H : List Blk) (R : Value → List Blk → Prop) : Value → List Blk → Prop := fun v H' =>
  Req (bdv 6 H.length v) fun _ => takeF H' H.length fun H1 => tidyF H.length H H1 fun _ => R v H1

theorem tidy_iff {n : Nat} : ∀ {H H' : List Blk} {k : Unit → Prop}, tidyF n H H' k → k () ∧ ∀ i, i < H.length → (∃ c e, H'[i]? = some (.cells c e) ∧ c.all (bdv 6 n) = true) ∨ (∃ f, H'[i]? = some (.ro f) ∧ H[i]? = some (.ro f)) ∨ H'[i]? = some .gone
  | [], _, k, h => ⟨h, by simp⟩
  | b0 :: H, [], k, h => False.elim h
  | b0 :: H, b :: H', k, h => by
    cases b with
    | cells c e =>
      unfold tidyF at h
      replace h := req_iff h
      obtain ⟨h1, h⟩ := h
      obtain ⟨hk, hr⟩ := tidy_iff h
      refine ⟨hk, fun i hi => ?_⟩
      cases i with
      | zero => exact .inl ⟨c, e, rfl, h1⟩
      | succ i => simpa using hr i (by simpa using hi)
    | ro f =>
      obtain ⟨h1, h⟩ := h
      obtain ⟨hk, hr⟩ := tidy_iff h
      refine ⟨hk, fun i hi => ?_⟩
      cases i with
      | zero => exact .inr (.inl ⟨f, rfl, by rw [h1]; rfl⟩)
      | succ i => simpa using hr i (by simpa using hi)
    | gone =>
      obtain ⟨hk, hr⟩ := tidy_iff (H := H) (H' := H') h
      refine ⟨hk, fun i hi => ?_⟩
      cases i with
      | zero => exact .inr (.inr rfl)
      | succ i => simpa using hr i (by simpa using hi)

theorem ACalls.tidy {f : FuncId} {args : List Value} {H : List Blk} {R : Value → List Blk → Prop} (h : ACalls P f args H (Tidy H R)) : ACalls P f args H R :=
  ⟨fun μ w cargs hv hrel => by
    obtain ⟨h1, h2⟩ := h.out μ w cargs hv hrel
    refine ⟨h1, h2.mono fun e w' hh => ?_⟩
    obtain ⟨v, cv, μ', H', he, h3, h4, h5, h6⟩ := hh
    obtain ⟨hb, h6⟩ := req_iff h6
    obtain ⟨hlen, h6⟩ := takeF_iff h6
    obtain ⟨hk, hall⟩ := tidy_iff h6
    obtain ⟨ext, rfl, hext⟩ := h5.pre
    have hs : ∀ i b, i < H.length → (μ ++ ext)[i]? = some b → μ[i]? = some b := fun i b hi hb => by
      rw [List.getElem?_append_left (by rw [← hrel.len]; exact hi)] at hb; exact hb
    have ht : ∀ i, i < H.length → (H'.take H.length)[i]? = H'[i]? := fun i hi => by rw [List.getElem?_take, if_pos hi]
    have hlt : ∀ {i b}, (H'.take H.length)[i]? = some b → i < H.length := fun {i b} hi => by
      have := (List.getElem?_eq_some_iff.1 hi).1; simp at this; omega
    refine ⟨v, cv, μ, H'.take H.length, he, h3.cut hs 6 _ _ hb, ⟨by rw [List.length_take, Nat.min_eq_left hlen]; exact hrel.len, hrel.nd, fun b hb => Nat.lt_of_lt_of_le (hrel.lt b hb) h5.size, ?_, ?_, ⟨hrel.base.hi, h4.base.le, h4.base.eq⟩⟩, ⟨⟨[], by simp, by simp⟩, h5.size, h5.os, h5.tape, h5.output, h5.same, ?_⟩, hk⟩
    · intro i b c e hH hμ
      have hi := hlt hH
      have hH' := hH
      rw [ht i hi] at hH'
      obtain ⟨c', hw, hc⟩ := h4.blk i b c e hH' (h5.sub _ _ hμ)
      refine ⟨c', hw, hc.1, fun j x y hx hy => ?_⟩
      rcases hall i hi with ⟨c1, e1, h7, h8⟩ | ⟨f1, h7, _⟩ | h7
      · rw [hH] at h7; cases h7
        exact (hc.2 j x y hx hy).cut hs 6 _ _ ((List.all_eq_true.1 h8) x (List.mem_of_getElem? hx))
      · rw [hH] at h7; cases h7
      · rw [hH] at h7; cases h7
    · intro i b f hH hμ o v hf
      have hi := hlt hH
      rcases hall i hi with ⟨c1, e1, h7, h8⟩ | ⟨f1, h7, h8⟩ | h7
      · rw [hH] at h7; cases h7
      · rw [hH] at h7; cases h7
        obtain ⟨v', hc, hvr⟩ := hrel.rob i b f h8 hμ o v hf
        refine ⟨v', ?_, hvr⟩
        rw [cell?_of_heap_eq (h5.same b (hrel.lt b (List.mem_of_getElem? hμ)) ?_)]
        · exact hc
        · rintro ⟨j, c, e, hj, hc⟩
          have := nodup_inj hrel.nd hμ hj
          subst this
          rw [h8] at hc; cases hc
      · rw [hH] at h7; cases h7
    · intro i c e hi hc
      rw [ht i hi] at hc
      exact h5.own i c e hi hc⟩

/-- A contract of a function's own code. -/
theorem ACalls.make (hT : TabOk P T) (hs : Hints) {f : FuncId} {fn : Func} {c : Code} {args : List Value} {H : List Blk} {R : Value → List Blk → Prop} (hf : P.funcs[f]? = some fn) (hb : fn.body = some c)
    (hcall : ∀ (args : Array Value) (w : World), (callFunc f args).run P w = .ok (.enter f args) w) (hok : codeOk T hs c = true)
    (h : AWp P T hs c (postF T fn.results.toList (Tidy H R)) (args ++ List.replicate (fn.ntmps - args.length) undef) H) : ACalls P f args H R :=
  (ACalls.intro hT hs hf hb hcall hok h).tidy

/-! ### Loops -/
theorem ALoop.inv {body : AK → List Value → List Blk → Prop} {K : AK} {ts : List Value} {H : List Blk} (I : List Value → List Blk → Prop) (m : List Value → List Blk → Nat) (h0 : I ts H)
    (round : ∀ ts H, I ts H → ∀ R : List Value → List Blk → Prop, (∀ ts' H', I ts' H' → m ts' H' < m ts H → R ts' H') → body (fun e ts' H' => match e with | .normal => R ts' H' | e => K e ts' H') ts H) : ALoop body K ts H := by
  have key : ∀ (n : Nat) (ts : List Value) (H : List Blk), I ts H → m ts H < n → rounds body K n ts H := by
    intro n
    induction n with
    | zero => intro ts H _ h; omega
    | succ n ih => intro ts H hI hm; exact round ts H hI (rounds body K n) fun ts' H' hI' hm' => ih ts' H' hI' (by omega)
  exact .of (m ts H + 1) (key _ ts H h0 (by omega))

end
end Go.Aw
end
section
/-
  A contract over a small heap, used in a larger one.
-/
set_option linter.unusedSectionVars false
namespace Go.Aw
variable [Base]
section
variable {P : Program} {T : Tab}

/-- A small number, forced. -/
def nF (n : Nat) (k : Nat → Prop) : Prop := match n with | 0 => k 0 | 1 => k 1 | 2 => k 2 | 3 => k 3 | 4 => k 4 | 5 => k 5 | 6 => k 6 | 7 => k 7 | 8 => k 8 | 9 => k 9 | 10 => k 10 | 11 => k 11 | 12 => k 12 | 13 => k 13 | 14 => k 14 | 15 => k 15 | 16 => k 16 | 17 => k 17 | 18 => k 18 | 19 => k 19 | 20 => k 20 | 21 => k 21 | 22 => k 22 | 23 => k 23 | 24 => k 24 | 25 => k 25 | 26 => k 26 | 27 => k 27 | 28 => k 28 | 29 => k 29 | 30 => k 30 | 31 => k 31 | 32 => k 32 | 33 => k 33 | 34 => k 34 | 35 => k 35 | 36 => k 36 | 37 => k 37 | 38 => k 38 | 39 => k 39 | n => k n
theorem nF_iff {n : Nat} {k : Nat → Prop} (h : nF n k) : k n := by
  unfold nF at h
  split at h <;> exact h
def renL (f : Value → VK → Prop) : List Value → (List Value → Prop) → Prop
  | [], k => k []
  | v :: l, k => f v fun v' => renL f l fun l' => k (v' :: l')
/-- A value, its names turned. -/
def renV : Nat → List Nat → Value → VK → Prop
  | 0, _, _, _ => False
  | d + 1, τ, v, k => match v with
    | .bool b => k (.bool b)
    | .int q n => k (.int q n)
    | .string s => k (.string s)
    | .pointer none => k (.pointer none)
    | .slice none l c => k (.slice none l c)
    | .nilFunc => k .nilFunc
    | .nilIface => k .nilIface
    | .pointer (some ⟨i, o, none⟩) => getF τ i fun j => nF j fun j => k (.pointer (some ⟨j, o, none⟩))
    | .slice (some ⟨i, o, none⟩) l c => getF τ i fun j => nF j fun j => k (.slice (some ⟨j, o, none⟩) l c)
    | .agg cs => renL (renV d τ) cs.toList fun l => k (.agg l.toArray)
    | .tuple cs => renL (renV d τ) cs.toList fun l => k (.tuple l.toArray)
    | .func (.func f) a c => renL (renV d τ) a.toList fun a => renL (renV d τ) c.toList fun c => k (.func (.func f) a.toArray c.toArray)
    | .iface t v => renV d τ v fun v => k (.iface t v)
    | _ => False
/-- What is read there names no block. -/
def FlatRo (f : Nat → Option Value) : Prop := ∀ (o : Nat) (v : Value), f o = some v → VR [] v v
theorem FlatRo.eq {f : Nat → Option Value} (h : FlatRo f) {o : Nat} {v cv : Value} (ho : f o = some v) {μ : List Nat} (hr : VR μ v cv) : cv = v := (((h o v ho).mono (by simp)).functional _ hr).symm
theorem FlatRo.vr {f : Nat → Option Value} (h : FlatRo f) {o : Nat} {v : Value} (ho : f o = some v) (μ : List Nat) : VR μ v v := (h o v ho).mono (by simp)
def renB (τ : List Nat) (b : Blk) (k : Blk → Prop) : Prop :=
  match b with
  | .cells c e => renL (renV 6 τ) c fun c' => k (.cells c' e)
  | .gone => k .gone
  | .ro f => FlatRo f ∧ k (.ro f)

theorem renL_iff {f : Value → VK → Prop} {τ : List Nat} (hf : ∀ v k, f v k → ∃ v', k v' ∧ VR τ v v') : ∀ {l : List Value} {k : List Value → Prop}, renL f l k → ∃ l', k l' ∧ VRs τ l l'
  | [], k, h => ⟨[], h, VRs.nil⟩
  | v :: l, k, h => by
    obtain ⟨v', h, hv⟩ := hf _ _ h
    obtain ⟨l', h, hl⟩ := renL_iff hf h
    exact ⟨v' :: l', h, VRs.cons hv hl⟩

theorem renV_iff {τ : List Nat} : ∀ (d : Nat) (v : Value) (k : VK), renV d τ v k → ∃ v', k v' ∧ VR τ v v'
  | 0, _, _, h => False.elim h
  | d + 1, v, k, h => by
    have arr : ∀ {c : Array Value} {l' : List Value}, VRs τ c.toList l' → ∀ (i : Nat) (x y : Value), c[i]? = some x → l'.toArray[i]? = some y → VR τ x y := fun {c l'} hl i x y hx hy => hl.2 i x y (by simpa using hx) (by simpa using hy)
    unfold renV at h
    split at h
    · exact ⟨_, h, .bool _⟩
    · exact ⟨_, h, .int _ _⟩
    · exact ⟨_, h, .str _⟩
    · exact ⟨_, h, .ptrN⟩
    · exact ⟨_, h, .slN _ _⟩
    · exact ⟨_, h, .nilF⟩
    · exact ⟨_, h, .nilI⟩
    · obtain ⟨j, hj, h⟩ := getF_iff h
      exact ⟨_, nF_iff h, .ptr _ _ _ hj⟩
    · obtain ⟨j, hj, h⟩ := getF_iff h
      exact ⟨_, nF_iff h, .sl _ _ _ _ _ hj⟩
    · obtain ⟨l', h, hl⟩ := renL_iff (renV_iff d) h
      exact ⟨_, h, .agg _ _ (by simpa using hl.1) (arr hl)⟩
    · obtain ⟨l', h, hl⟩ := renL_iff (renV_iff d) h
      exact ⟨_, h, .tup _ _ (by simpa using hl.1) (arr hl)⟩
    · obtain ⟨a', h, ha⟩ := renL_iff (renV_iff d) h
      obtain ⟨c', h, hc⟩ := renL_iff (renV_iff d) h
      exact ⟨_, h, .fn _ _ _ _ _ (by simpa using ha.1) (by simpa using hc.1) (arr ha) (arr hc)⟩
    · obtain ⟨v', h, hv⟩ := renV_iff d _ _ h
      exact ⟨_, h, .ifc _ _ _ hv⟩
    · exact False.elim h

/-- Turned by 'τ', then laid at 'ν': laid at 'μ' from the first. -/
theorem VR.back {τ μ ν : List Nat} (hτ : ∀ i j b : Nat, τ[i]? = some j → μ[i]? = some b → ν[j]? = some b) {v v' : Value} (h : VR τ v v') : ∀ {cv : Value}, VR μ v cv → VR ν v' cv := by
  induction h with
  | bool b => intro cv k; cases k; exact .bool b
  | int q n => intro cv k; cases k; exact .int q n
  | str s => intro cv k; cases k; exact .str s
  | ptrN => intro cv k; cases k; exact .ptrN
  | ptr i j o h => intro cv k; cases k with | ptr _ b _ hb => exact .ptr _ _ _ (hτ _ _ _ h hb)
  | slN l c => intro cv k; cases k; exact .slN l c
  | sl i j o l c h => intro cv k; cases k with | sl _ b _ _ _ hb => exact .sl _ _ _ _ _ (hτ _ _ _ h hb)
  | fn f a a' c c' ha hc ra rc iha ihc =>
    intro cv k
    cases k with
    | fn _ _ a'' _ c'' ha' hc' ra' rc' =>
      refine .fn _ _ _ _ _ (by omega) (by omega) (fun i x y hx hy => ?_) (fun i x y hx hy => ?_)
      · have hi : i < a.size := by have := (Array.getElem?_eq_some_iff.1 hx).1; omega
        exact iha i _ x (Array.getElem?_eq_getElem hi) hx (ra' i _ y (Array.getElem?_eq_getElem hi) hy)
      · have hi : i < c.size := by have := (Array.getElem?_eq_some_iff.1 hx).1; omega
        exact ihc i _ x (Array.getElem?_eq_getElem hi) hx (rc' i _ y (Array.getElem?_eq_getElem hi) hy)
  | nilF => intro cv k; cases k; exact .nilF
  | nilI => intro cv k; cases k; exact .nilI
  | ifc t v v' _ ih => intro cv k; cases k with | ifc _ _ w h' => exact .ifc _ _ _ (ih h')
  | agg c c' hc rc ihc =>
    intro cv k
    cases k with
    | agg _ c'' hc' rc' =>
      refine .agg _ _ (by omega) (fun i x y hx hy => ?_)
      have hi : i < c.size := by have := (Array.getElem?_eq_some_iff.1 hx).1; omega
      exact ihc i _ x (Array.getElem?_eq_getElem hi) hx (rc' i _ y (Array.getElem?_eq_getElem hi) hy)
  | tup c c' hc rc ihc =>
    intro cv k
    cases k with
    | tup _ c'' hc' rc' =>
      refine .tup _ _ (by omega) (fun i x y hx hy => ?_)
      have hi : i < c.size := by have := (Array.getElem?_eq_some_iff.1 hx).1; omega
      exact ihc i _ x (Array.getElem?_eq_getElem hi) hx (rc' i _ y (Array.getElem?_eq_getElem hi) hy)

/-- And the other way. -/
theorem VR.fore {τ μ ν : List Nat} (hτ : ∀ i j b : Nat, τ[i]? = some j → ν[j]? = some b → μ[i]? = some b) {v v' : Value} (h : VR τ v v') : ∀ {cv : Value}, VR ν v' cv → VR μ v cv := by
  induction h with
  | bool b => intro cv k; cases k; exact .bool b
  | int q n => intro cv k; cases k; exact .int q n
  | str s => intro cv k; cases k; exact .str s
  | ptrN => intro cv k; cases k; exact .ptrN
  | ptr i j o h => intro cv k; cases k with | ptr _ b _ hb => exact .ptr _ _ _ (hτ _ _ _ h hb)
  | slN l c => intro cv k; cases k; exact .slN l c
  | sl i j o l c h => intro cv k; cases k with | sl _ b _ _ _ hb => exact .sl _ _ _ _ _ (hτ _ _ _ h hb)
  | fn f a a' c c' ha hc ra rc iha ihc =>
    intro cv k
    cases k with
    | fn _ _ a'' _ c'' ha' hc' ra' rc' =>
      refine .fn _ _ _ _ _ (by omega) (by omega) (fun i x y hx hy => ?_) (fun i x y hx hy => ?_)
      · have hi : i < a'.size := by have := (Array.getElem?_eq_some_iff.1 hx).1; omega
        exact iha i x _ hx (Array.getElem?_eq_getElem hi) (ra' i _ y (Array.getElem?_eq_getElem hi) hy)
      · have hi : i < c'.size := by have := (Array.getElem?_eq_some_iff.1 hx).1; omega
        exact ihc i x _ hx (Array.getElem?_eq_getElem hi) (rc' i _ y (Array.getElem?_eq_getElem hi) hy)
  | nilF => intro cv k; cases k; exact .nilF
  | nilI => intro cv k; cases k; exact .nilI
  | ifc t v v' _ ih => intro cv k; cases k with | ifc _ _ w h' => exact .ifc _ _ _ (ih h')
  | agg c c' hc rc ihc =>
    intro cv k
    cases k with
    | agg _ c'' hc' rc' =>
      refine .agg _ _ (by omega) (fun i x y hx hy => ?_)
      have hi : i < c'.size := by have := (Array.getElem?_eq_some_iff.1 hx).1; omega
      exact ihc i x _ hx (Array.getElem?_eq_getElem hi) (rc' i _ y (Array.getElem?_eq_getElem hi) hy)
  | tup c c' hc rc ihc =>
    intro cv k
    cases k with
    | tup _ c'' hc' rc' =>
      refine .tup _ _ (by omega) (fun i x y hx hy => ?_)
      have hi : i < c'.size := by have := (Array.getElem?_eq_some_iff.1 hx).1; omega
      exact ihc i x _ hx (Array.getElem?_eq_getElem hi) (rc' i _ y (Array.getElem?_eq_getElem hi) hy)

/-- The small heap's blocks, turned, and those that stand at the places 'σ' of the large one. -/
def hatF (τ : List Nat) : List Nat → List Blk → List Blk → (List Blk → List Blk → Prop) → Prop
  | [], [], _, k => k [] []
  | j :: σ, b0 :: H0, H, k => getF H j fun b => renB τ b0 fun b' => hatF τ σ H0 H fun l l' => k (b' :: l) (b :: l')
  | _, _, _, _ => False
/-- The small heap lies in the large one, at the places 'σ'. -/
def HAt (τ : List Nat) (σ : List Nat) (H0 H : List Blk) : Prop := hatF τ σ H0 H fun l l' => l = l'

/-- The names: the old ones, then new ones. -/
def tauF : List Nat → List Blk → List Nat → (List Nat → Prop) → Prop
  | s :: σ, _ :: H, ns, k => tauF σ H ns fun τ => k (s :: τ)
  | [], [], _, k => k []
  | [], _ :: H, n :: ns, k => tauF [] H ns fun τ => k (n :: τ)
  | _, _, _, _ => False
/-- The small heap, laid back. -/
def updF (τ : List Nat) : List Nat → List Blk → List Blk → (List Blk → Prop) → Prop
  | s :: σ, b :: H0, H, k => renB τ b fun b' => setF H s b' fun H' => updF τ σ H0 H' k
  | [], b :: H0, H, k => renB τ b fun b' => snocF H b' fun H' => updF τ [] H0 H' k
  | [], [], H, k => k H
  | _ :: _, [], _, _ => False
def Back (σ : List Nat) (H H0' : List Blk) (v0 : Value) (k : Value → List Blk → Prop) : Prop :=
  dropF nums H.length fun ns => tauF σ H0' ns fun τ => updF τ σ H0' H fun H' => renV 6 τ v0 fun v => k v H'

inductive BlkR (τ : List Nat) : Blk → Blk → Prop
  | cells (c c' : List Value) (e : TypeId) (h : VRs τ c c') : BlkR τ (.cells c e) (.cells c' e)
  | gone : BlkR τ .gone .gone
  | ro (f : Nat → Option Value) (h : FlatRo f) : BlkR τ (.ro f) (.ro f)

theorem renB_iff {τ : List Nat} {b : Blk} {k : Blk → Prop} (h : renB τ b k) : ∃ b', k b' ∧ BlkR τ b b' := by
  cases b with
  | cells c e =>
    obtain ⟨c', h, hc⟩ := renL_iff (renV_iff 6) h
    exact ⟨_, h, .cells _ _ _ hc⟩
  | gone => exact ⟨_, h, .gone⟩
  | ro f => exact ⟨_, h.2, .ro f h.1⟩

theorem hatF_iff {τ : List Nat} : ∀ {σ : List Nat} {H0 H : List Blk} {k : List Blk → List Blk → Prop}, hatF τ σ H0 H k → σ.length = H0.length ∧ ∃ l l' : List Blk, k l l' ∧ l.length = H0.length ∧
    ∀ (i : Nat) (b0 : Blk), H0[i]? = some b0 → ∃ (j : Nat) (b b' : Blk), σ[i]? = some j ∧ H[j]? = some b ∧ l[i]? = some b' ∧ l'[i]? = some b ∧ BlkR τ b0 b'
  | [], [], _, _, h => ⟨rfl, [], [], h, rfl, by simp⟩
  | j :: σ, b0 :: H0, H, k, h => by
    obtain ⟨b, hb, h⟩ := getF_iff h
    obtain ⟨b', h, hr⟩ := renB_iff h
    obtain ⟨hl, l, l', hk, hll, h3⟩ := hatF_iff h
    refine ⟨by simp [hl], b' :: l, b :: l', hk, by simp [hll], fun i x hx => ?_⟩
    cases i with
    | zero => simp at hx; subst hx; exact ⟨j, b, b', rfl, hb, rfl, rfl, hr⟩
    | succ i => simpa using h3 i x (by simpa using hx)
  | [], _ :: _, _, _, h => False.elim h
  | _ :: _, [], _, _, h => False.elim h
theorem hat_iff {τ : List Nat} {σ : List Nat} {H0 H : List Blk} (h : HAt τ σ H0 H) : σ.length = H0.length ∧ ∀ (i : Nat) (b0 : Blk), H0[i]? = some b0 → ∃ (j : Nat) (b : Blk), σ[i]? = some j ∧ H[j]? = some b ∧ BlkR τ b0 b := by
  obtain ⟨hl, l, l', rfl, _, h⟩ := hatF_iff h
  refine ⟨hl, fun i b0 hi => ?_⟩
  obtain ⟨j, b, b', h1, h2, h3, h4, h5⟩ := h i b0 hi
  rw [h3] at h4; cases h4
  exact ⟨j, _, h1, h2, h5⟩

theorem snocF_iff {α : Type} {l : List α} {v : α} {k : List α → Prop} (h : snocF l v k) : k (l ++ [v]) := by
  induction l generalizing k with
  | nil => exact h
  | cons a l ih => exact ih (k := fun l' => k (a :: l')) h

theorem tau_iff : ∀ {σ : List Nat} {H : List Blk} {ns : List Nat} {k : List Nat → Prop}, tauF σ H ns k → σ.length ≤ H.length ∧ H.length - σ.length ≤ ns.length ∧ k (σ ++ ns.take (H.length - σ.length))
  | s :: σ, _ :: H, ns, k, h => by
    obtain ⟨h1, h2, h3⟩ := tau_iff (σ := σ) h
    exact ⟨by simp; exact h1, by simp; omega, by simpa using h3⟩
  | [], [], ns, k, h => by
    have h : k [] := by cases ns <;> exact h
    exact ⟨Nat.le_refl _, Nat.zero_le _, by simpa using h⟩
  | [], _ :: H, n :: ns, k, h => by
    obtain ⟨h1, h2, h3⟩ := tau_iff (σ := []) (H := H) h
    exact ⟨Nat.zero_le _, by simp at h2 ⊢; omega, by simpa using h3⟩
  | _ :: _, [], _, _, h => False.elim h
  | [], _ :: _, [], _, h => False.elim h

structure Laid (τ σ : List Nat) (H0 H H' : List Blk) : Prop where
  len : H'.length = H.length + (H0.length - σ.length)
  le : σ.length ≤ H0.length
  other : ∀ j : Nat, j < H.length → j ∉ σ → H'[j]? = H[j]?
  old : ∀ i s : Nat, σ[i]? = some s → ∃ b b' : Blk, H0[i]? = some b ∧ H'[s]? = some b' ∧ BlkR τ b b'
  new : ∀ i : Nat, σ.length ≤ i → i < H0.length → ∃ b b' : Blk, H0[i]? = some b ∧ H'[H.length + (i - σ.length)]? = some b' ∧ BlkR τ b b'

/-- What the laying back comes to: the old places hold the small heap's blocks, the others stay, the new ones stand behind. -/
theorem upd_iff {τ : List Nat} : ∀ {σ : List Nat} {H0 H : List Blk} {k : List Blk → Prop}, updF τ σ H0 H k → σ.Nodup → (∀ s ∈ σ, s < H.length) → ∃ H', k H' ∧ Laid τ σ H0 H H'
  | s :: σ, b :: H0, H, k, h, hn, hlt => by
    have hs : s < H.length := hlt s (List.mem_cons_self ..)
    rw [List.nodup_cons] at hn
    unfold updF at h
    obtain ⟨b', h, hb⟩ := renB_iff h
    have h := setF_iff h
    obtain ⟨H', hk, ⟨h1, h2, h3, h4, h5⟩⟩ := upd_iff h hn.2 (fun t ht => by simpa using hlt t (List.mem_cons_of_mem _ ht))
    simp only [List.length_set] at h1 h3 h5
    refine ⟨H', hk, ⟨by simpa using h1, by simpa using h2, fun j hj hns => ?_, fun i t hi => ?_, fun i hi hl => ?_⟩⟩
    · simp only [List.mem_cons, not_or] at hns
      rw [h3 j hj hns.2, List.getElem?_set_ne (Ne.symm hns.1)]
    · cases i with
      | zero =>
        simp at hi; subst hi
        refine ⟨b, b', rfl, ?_, hb⟩
        rw [h3 s hs hn.1]
        simp [hs]
      | succ i => simpa using h4 i t (by simpa using hi)
    · cases i with
      | zero => simp at hi
      | succ i =>
        have := h5 i (by simpa using hi) (by simpa using hl)
        simpa [Nat.add_sub_add_right] using this
  | [], b :: H0, H, k, h, hn, hlt => by
    unfold updF at h
    obtain ⟨b', h, hb⟩ := renB_iff h
    have h := snocF_iff h
    obtain ⟨H', hk, ⟨h1, h2, h3, h4, h5⟩⟩ := upd_iff h hn (by simp)
    simp only [List.length_append, List.length_cons, List.length_nil, Nat.sub_zero] at h1 h3 h5
    refine ⟨H', hk, ⟨by simp; omega, by simp, fun j hj _ => ?_, by simp, fun i hi hl => ?_⟩⟩
    · rw [h3 j (by omega) (by simp), List.getElem?_append_left hj]
    · cases i with
      | zero =>
        refine ⟨b, b', rfl, ?_, hb⟩
        rw [Nat.zero_sub, Nat.add_zero, h3 H.length (by omega) (by simp)]
        simp
      | succ i =>
        obtain ⟨x, x', e1, e2, e3⟩ := h5 i (by simp) (by simpa using hl)
        refine ⟨x, x', by simpa using e1, ?_, e3⟩
        rw [show H.length + (i + 1 - [].length) = H.length + (0 + 1) + i by simp; omega]
        exact e2
  | [], [], H, k, h, _, _ => ⟨H, h, ⟨by simp, Nat.le_refl _, fun _ _ _ => rfl, by simp, fun i _ hl => by simp at hl⟩⟩
  | _ :: _, [], _, _, h, _, _ => False.elim h

theorem nodup_of {l : List Nat} (h : ∀ i j b : Nat, l[i]? = some b → l[j]? = some b → i = j) : l.Nodup := by
  unfold List.Nodup
  rw [List.pairwise_iff_getElem]
  intro i j hi hj hij he
  have := h i j l[i] (List.getElem?_eq_getElem hi) (by rw [he]; exact List.getElem?_eq_getElem hj)
  omega

/-- **A contract over a small heap, used in a larger one.** -/
theorem ACalls.use {f : FuncId} {args0 : List Value} {H0 : List Blk} {R0 : Value → List Blk → Prop} (h : ACalls P f args0 H0 R0) (σ : List Nat) {args : List Value} {H : List Blk} {k : Value → List Blk → Prop}
    (hn : σ.Nodup) (hat : HAt σ σ H0 H) (hargs : renL (renV 6 σ) args0 fun l => l = args) (hk : ∀ v0 H0', R0 v0 H0' → Back σ H H0' v0 k) : ACalls P f args H k := by
  obtain ⟨hlen, hat⟩ := hat_iff hat
  replace hargs := renL_iff (renV_iff 6) hargs
  obtain ⟨args', rfl, hargs⟩ := hargs
  refine ⟨fun μ w cargs hv hr => ?_⟩
  have hσlt : ∀ {i s : Nat}, σ[i]? = some s → s < H.length := fun {i s} hi => by
    have hi0 : i < H0.length := by rw [← hlen]; exact (List.getElem?_eq_some_iff.1 hi).1
    obtain ⟨j, b, h1, h2, _⟩ := hat i _ (List.getElem?_eq_getElem hi0)
    rw [hi] at h1; cases h1
    exact (List.getElem?_eq_some_iff.1 h2).1
  let μ0 := σ.map fun s => μ.getD s 0
  have hμ0 : ∀ {i s : Nat}, σ[i]? = some s → μ0[i]? = μ[s]? := fun {i s} hi => by
    have hs : s < μ.length := by rw [← hr.len]; exact hσlt hi
    simp [μ0, hi, hs]
  have hμ0' : ∀ {i b : Nat}, μ0[i]? = some b → ∃ s, σ[i]? = some s ∧ μ[s]? = some b := fun {i b} hi => by
    have hlt : i < σ.length := by have := (List.getElem?_eq_some_iff.1 hi).1; simpa [μ0] using this
    refine ⟨σ[i], List.getElem?_eq_getElem hlt, ?_⟩
    rw [← hμ0 (List.getElem?_eq_getElem hlt)]; exact hi
  have hfore : ∀ i j b : Nat, σ[i]? = some j → μ[j]? = some b → μ0[i]? = some b := fun i j b h1 h2 => by rw [hμ0 h1]; exact h2
  have hrel0 : Rel μ0 H0 w := by
    refine ⟨by simp [μ0, hlen], ?_, fun b hb => ?_, fun i b c e hH hμ => ?_, fun i b f hH hμ => ?_, ⟨fun b hb => by
      obtain ⟨i, hi⟩ := List.mem_iff_getElem?.1 hb
      obtain ⟨s, _, hsb⟩ := hμ0' hi
      exact hr.base.hi b (List.mem_of_getElem? hsb), hr.base.le, hr.base.eq⟩⟩
    · refine nodup_of fun i j b hi hj => ?_
      obtain ⟨s, hs, hsb⟩ := hμ0' hi
      obtain ⟨t, ht, htb⟩ := hμ0' hj
      have := nodup_inj hr.nd hsb htb
      subst this
      exact nodup_inj hn hs ht
    · obtain ⟨i, hi⟩ := List.mem_iff_getElem?.1 hb
      obtain ⟨s, _, hs⟩ := hμ0' hi
      exact hr.lt b (List.mem_of_getElem? hs)
    · obtain ⟨s, hs, hsb⟩ := hμ0' hμ
      obtain ⟨j, b', h1, h2, h3⟩ := hat i _ hH
      rw [hs] at h1; cases h1
      cases h3 with
      | cells _ c1 _ hc =>
        obtain ⟨c2, hw, hc2⟩ := hr.blk s b c1 e h2 hsb
        refine ⟨c2, hw, by rw [hc.1]; exact hc2.1, fun m x y hx hy => ?_⟩
        obtain ⟨z, hz, hxz⟩ := hc.get hx
        exact hxz.fore hfore (hc2.2 m z y hz hy)
    · obtain ⟨s, hs, hsb⟩ := hμ0' hμ
      obtain ⟨j, b', h1, h2, h3⟩ := hat i _ hH
      rw [hs] at h1; cases h1
      cases h3 with
      | ro _ hf =>
        intro o v ho
        obtain ⟨v', hw, hc⟩ := hr.rob s b f h2 hsb o v ho
        rw [hf.eq ho hc] at hw
        exact ⟨v, hw, hf.vr ho _⟩
  have hv0 : VRs μ0 args0 cargs := ⟨hargs.1.trans hv.1, fun m x y hx hy => by
    obtain ⟨z, hz, hxz⟩ := hargs.get hx
    exact hxz.fore hfore (hv.2 m z y hz hy)⟩
  obtain ⟨h1, h2⟩ := h.out μ0 w cargs hv0 hrel0
  refine ⟨h1, h2.mono fun e w' hh => ?_⟩
  obtain ⟨v0, cv, μ1, H0', he, hvr, hr1, hx1, hR⟩ := hh
  have hb := hk v0 H0' hR
  obtain ⟨hns, hb⟩ := dropF_iff hb
  obtain ⟨hle, hns2, hb⟩ := tau_iff hb
  obtain ⟨H', hb, hlaid⟩ := upd_iff hb hn fun s hs => by
    obtain ⟨i, hi⟩ := List.mem_iff_getElem?.1 hs
    exact hσlt hi
  obtain ⟨v, hb, hvv⟩ := renV_iff 6 _ _ hb
  obtain ⟨ext, rfl, hext⟩ := hx1.pre
  have hl1 : H0'.length = σ.length + ext.length := by rw [hr1.len]; simp [μ0]
  have hel : H0'.length - σ.length = ext.length := by omega
  rw [hel] at hvv hlaid
  -- the names
  have hnum : ∀ i : Nat, i < ext.length → ((nums.drop H.length).take ext.length)[i]? = some (H.length + i) := fun i hi => by
    rw [List.getElem?_take, if_pos hi, List.getElem?_drop, nums_eq, List.getElem?_range]
    simp [nums_eq] at hns2
    omega
  have htau : ∀ i j b : Nat, (σ ++ (nums.drop H.length).take ext.length)[i]? = some j → (μ0 ++ ext)[i]? = some b → (μ ++ ext)[j]? = some b := fun i j b hi hb => by
    by_cases hlt : i < σ.length
    · rw [List.getElem?_append_left hlt] at hi
      rw [List.getElem?_append_left (by simpa [μ0] using hlt), hμ0 hi] at hb
      rw [List.getElem?_append_left (List.getElem?_eq_some_iff.1 hb).1]; exact hb
    · rw [List.getElem?_append_right (by omega)] at hi
      rw [List.getElem?_append_right (by simp [μ0]; omega)] at hb
      have hm : i - σ.length < ext.length := by have := (List.getElem?_eq_some_iff.1 hb).1; simpa [μ0] using this
      rw [hnum _ hm] at hi
      cases hi
      rw [List.getElem?_append_right (by rw [hr.len]; omega)]
      rw [hr.len, show μ.length + (i - σ.length) - μ.length = i - μ0.length by simp [μ0]]
      exact hb
  have hmulen : (μ ++ ext).length = H'.length := by rw [hlaid.len, hel, List.length_append, ← hr.len]
  have hnew : ∀ b ∈ ext, b ∉ μ := fun b hb hm => by have := hext b hb; have := hr.lt b hm; omega
  have hnd1 : (μ0 ++ ext).Nodup := hr1.nd
  have hnde : ext.Nodup := (List.nodup_append.1 hnd1).2.1
  -- which block of the small heap a block of the large one is
  have hclass : ∀ (j b : Nat), (μ ++ ext)[j]? = some b → (j < H.length ∧ j ∉ σ ∧ μ[j]? = some b) ∨ ∃ i b0 b', (μ0 ++ ext)[i]? = some b ∧ H0'[i]? = some b0 ∧ H'[j]? = some b' ∧ BlkR (σ ++ (nums.drop H.length).take ext.length) b0 b' ∧ (∀ c e, j < H.length → b' = .cells c e → ∃ c0 e0, H[j]? = some (.cells c0 e0)) := fun j b hj => by
    by_cases hlt : j < H.length
    · have hjm := hj
      rw [List.getElem?_append_left (by rw [← hr.len]; exact hlt)] at hjm
      by_cases hσ : j ∈ σ
      · obtain ⟨i, hi⟩ := List.mem_iff_getElem?.1 hσ
        have hil : i < σ.length := (List.getElem?_eq_some_iff.1 hi).1
        obtain ⟨b0, b', e1, e2, e3⟩ := hlaid.old i j hi
        refine .inr ⟨i, b0, b', ?_, e1, e2, e3, fun c e _ hbc => ?_⟩
        · rw [List.getElem?_append_left (by simpa [μ0] using hil), hμ0 hi]; exact hjm
        · subst hbc
          cases e3 with
          | cells c0 _ _ _ =>
            obtain ⟨c1, e1', h3⟩ := hx1.own i c0 e (by rw [← hlen]; exact hil) e1
            obtain ⟨j', b1, f1, f2, f3⟩ := hat i _ h3
            rw [hi] at f1; cases f1
            cases f3 with
            | cells _ c2 _ _ => exact ⟨c2, e1', f2⟩
      · exact .inl ⟨hlt, hσ, hjm⟩
    · rw [List.getElem?_append_right (by rw [← hr.len]; omega)] at hj
      have hm : j - μ.length < ext.length := (List.getElem?_eq_some_iff.1 hj).1
      have hi1 : σ.length ≤ σ.length + (j - μ.length) := by omega
      obtain ⟨b0, b', e1, e2, e3⟩ := hlaid.new (σ.length + (j - μ.length)) hi1 (by omega)
      refine .inr ⟨σ.length + (j - μ.length), b0, b', ?_, e1, ?_, e3, fun c e h => absurd h hlt⟩
      · rw [List.getElem?_append_right (by simp [μ0]), show σ.length + (j - μ.length) - μ0.length = j - μ.length by simp [μ0]]; exact hj
      · rw [show H.length + (σ.length + (j - μ.length) - σ.length) = j by rw [hr.len]; have := hr.len; omega] at e2; exact e2
  refine ⟨v, cv, μ ++ ext, H', he, hvv.back htau hvr, ⟨hmulen.symm, ?_, ?_, ?_, ?_, ⟨fun b hb => (List.mem_append.1 hb).elim (hr.base.hi b) (fun hb => hr1.base.hi b (List.mem_append_right _ hb)), hr1.base.le, hr1.base.eq⟩⟩, ⟨⟨ext, rfl, hext⟩, hx1.size, hx1.os, hx1.tape, hx1.output, ?_, ?_⟩, hb⟩
  · rw [List.nodup_append]
    exact ⟨hr.nd, hnde, fun a ha b hb hab => hnew b hb (hab ▸ ha)⟩
  · intro b hb
    rcases List.mem_append.1 hb with hb | hb
    · exact Nat.lt_of_lt_of_le (hr.lt b hb) hx1.size
    · exact hr1.lt b (List.mem_append_right _ hb)
  · intro j b c e hH hj
    rcases hclass j b hj with ⟨hlt, hσ, hjm⟩ | ⟨i, b0, b', f1, f2, f3, f4, _⟩
    · rw [hlaid.other j hlt hσ] at hH
      obtain ⟨c', hw, hc⟩ := hr.blk j b c e hH hjm
      refine ⟨c', ?_, hc.mono fun i b hi => by rw [List.getElem?_append_left (List.getElem?_eq_some_iff.1 hi).1]; exact hi⟩
      rw [hx1.same b (hr.lt b (List.mem_of_getElem? hjm)) ?_]
      · exact hw
      · rintro ⟨i, c1, e1, h1, _⟩
        obtain ⟨s, hs, hsb⟩ := hμ0' h1
        have := nodup_inj hr.nd hjm hsb
        subst this
        exact hσ (List.mem_of_getElem? hs)
    · rw [hH] at f3; cases f3
      cases f4 with
      | cells c0 _ _ hc0 =>
        obtain ⟨c', hw, hc⟩ := hr1.blk i b c0 e f2 f1
        refine ⟨c', hw, by rw [← hc0.1]; exact hc.1, fun m x y hx hy => ?_⟩
        have hm : m < c0.length := by rw [hc0.1]; exact (List.getElem?_eq_some_iff.1 hx).1
        exact (hc0.2 m _ x (List.getElem?_eq_getElem hm) hx).back htau (hc.2 m _ y (List.getElem?_eq_getElem hm) hy)
  · intro j b f hH hj o u hf
    rcases hclass j b hj with ⟨hlt, hσ, hjm⟩ | ⟨i, b0, b', f1, f2, f3, f4, _⟩
    · rw [hlaid.other j hlt hσ] at hH
      obtain ⟨v', hw, hc⟩ := hr.rob j b f hH hjm o u hf
      refine ⟨v', ?_, hc.mono fun i b hi => by rw [List.getElem?_append_left (List.getElem?_eq_some_iff.1 hi).1]; exact hi⟩
      rw [cell?_of_heap_eq (hx1.same b (hr.lt b (List.mem_of_getElem? hjm)) ?_)]
      · exact hw
      · rintro ⟨i, c1, e1, h1, _⟩
        obtain ⟨s, hs, hsb⟩ := hμ0' h1
        have := nodup_inj hr.nd hjm hsb
        subst this
        exact hσ (List.mem_of_getElem? hs)
    · rw [hH] at f3; cases f3
      cases f4 with
      | ro _ hfl =>
        obtain ⟨v', hw, hc⟩ := hr1.rob i b f f2 f1 o u hf
        rw [hfl.eq hf hc] at hw
        exact ⟨u, hw, hfl.vr hf _⟩
  · intro b hb hn'
    refine hx1.same b hb ?_
    rintro ⟨i, c, e, h1, h3⟩
    obtain ⟨s, hs, hsb⟩ := hμ0' h1
    obtain ⟨j, b', f1, f2, f3⟩ := hat i _ h3
    rw [hs] at f1; cases f1
    cases f3 with
    | cells _ c1 _ _ => exact hn' ⟨s, c1, e, hsb, f2⟩
  · intro j c e hj hc
    have hjm : j < (μ ++ ext).length := by rw [List.length_append, ← hr.len]; omega
    rcases hclass j _ (List.getElem?_eq_getElem hjm) with ⟨hlt, hσ, _⟩ | ⟨i, b0, b', _, _, f3, _, f5⟩
    · rw [hlaid.other j hlt hσ] at hc; exact ⟨c, e, hc⟩
    · rw [hc] at f3; cases f3
      exact f5 c e hj rfl

def nodup : List Nat → Bool
  | [] => true
  | a :: l => l.all (fun b => !(Nat.beq a b)) && nodup l
theorem nodup_spec : ∀ {l : List Nat}, nodup l = true → l.Nodup
  | [], _ => List.nodup_nil
  | a :: l, h => by
    simp only [nodup, Bool.and_eq_true] at h
    refine List.nodup_cons.2 ⟨fun hm => ?_, nodup_spec h.2⟩
    have := (List.all_eq_true.1 h.1) a hm
    simp at this

abbrev Gives (P : Program) (f : FuncId) (args : List Value) (H : List Blk) (v : Value) (H' : List Blk) : Prop := ACalls P f args H fun r h => r = v ∧ h = H'

theorem ACalls.useE {P : Program} {f : FuncId} {args0 : List Value} {H0 : List Blk} {v0 : Value} {H1 : List Blk} (h : ACalls P f args0 H0 fun r h => r = v0 ∧ h = H1) (σ : List Nat) {args : List Value} {H : List Blk} {k : Value → List Blk → Prop}
    (hn : nodup σ = true) (hat : HAt σ σ H0 H) (hargs : renL (renV 6 σ) args0 fun l => l = args) (hk : Back σ H H1 v0 k) : ACalls P f args H k :=
  h.use σ (nodup_spec hn) hat hargs fun _ _ hh => by obtain ⟨rfl, rfl⟩ := hh; exact hk

end
end Go.Aw
end
section
/-
  The same computation by the types' recursors: what the checker unfolds is then what the tactics unfold, word for word.
-/
set_option linter.unusedSectionVars false
namespace Go.Aw
variable [Base]
section
variable (P : Program) (T : Tab)

noncomputable def opsR (ops : List Oper) (l : List Oper) : List Value → List Blk → (List Value → List Blk → Prop) → Prop :=
  List.rec (motive := fun _ => List Value → List Blk → (List Value → List Blk → Prop) → Prop) (fun ts H k => k ts H)
    (fun o _ ih ts H k => wantF ops ts o.guard
      (fun _ => match quietOp o.op with
        | true => quietS T H ts o.op fun v => putDst ts o.dst v fun ts => ih ts H k
        | false => effectF P T H ts o.op fun v H => putDst ts o.dst v fun ts => ih ts H k)
      (fun _ => putDst ts o.dst undef fun ts => ih ts H k)) l

theorem opsR_eq (ops : List Oper) : ∀ l : List Oper, opsR P T ops l = opsF P T ops l
  | [] => by funext ts H k; rfl
  | o :: rest => by funext ts H k; unfold opsF; rw [← opsR_eq ops rest]; rfl

noncomputable def keepR (H : List Blk) (ks : List Nat) (l : List Seen) : (Unit → Prop) → Prop :=
  List.rec (motive := fun _ => (Unit → Prop) → Prop) (fun k => k ())
    (fun s _ ih k => match ks.any (Nat.beq s.i) with
      | true => keep1 T H s fun _ => ih k
      | false => ih k) l

theorem keepR_eq (H : List Blk) (ks : List Nat) : ∀ l : List Seen, keepR T H ks l = keepF T H ks l
  | [] => by funext k; rfl
  | s :: l => by funext k; unfold keepF; rw [← keepR_eq H ks l]; rfl

noncomputable def planR (ops : List Oper) (p : Plan) : List Seen → List Value → List Blk → (List Value → List Blk → Prop) → Prop :=
  List.rec (motive := fun _ => List Seen → List Value → List Blk → (List Value → List Blk → Prop) → Prop) (fun _ ts H k => k ts H)
    (fun a _ ih L ts H k => getF ops a.1 fun o => wantF ops ts o.guard
      (fun _ => match quietOp o.op with
        | true => quietP T H ts a.1 o.op L fun v L => putDst ts o.dst v fun ts => ih L ts H k
        | false => effectF P T H ts o.op fun v H => keepR T H a.2 L fun _ => putDst ts o.dst v fun ts => ih L ts H k)
      (fun _ => putDst ts o.dst undef fun ts => ih L ts H k)) p

theorem planR_eq (ops : List Oper) : ∀ p : Plan, planR P T ops p = planF P T ops p
  | [] => by funext L ts H k; rfl
  | (i, ks) :: rest => by
    funext L ts H k; unfold planF; rw [← planR_eq ops rest]
    have : keepF T = keepR T := by funext H ks l; rw [keepR_eq]
    rw [this]; rfl

noncomputable def AWpR (hs : Hints) (c : Code) : AK → List Value → List Blk → Prop :=
  Code.rec (motive := fun _ => AK → List Value → List Blk → Prop)
    (fun K ts H => K .normal ts H)
    (fun id ops d K ts H => match d with
      | false => opsR P T ops.toList ops.toList ts H (K .normal)
      | true => hintF hs id fun p => planR P T ops.toList p [] ts H (K .normal))
    (fun _ _ iha ihb K ts H => iha (fun e ts H => match e with | .normal => ihb K ts H | e => K e ts H) ts H)
    (fun c _ _ iha ihb K ts H => evF ts c fun v => match v with | .bool q => Bif q (fun _ => iha K ts H) (fun _ => ihb K ts H) | _ => False)
    (fun id _ ih K ts H => ih (fun e ts H => match e with | .exit j => (match Nat.beq j id with | true => K .normal ts H | false => K (.exit j) ts H) | e => K e ts H) ts H)
    (fun _ ih K ts H => ALoop ih K ts H)
    (fun _ _ _ _ _ _ _ _ _ => False)
    (fun id K ts H => K (.exit id) ts H)
    (fun _ _ _ _ _ => False)
    (fun _ _ _ _ => False)
    (fun _ _ _ _ => False)
    (fun K ts H => K .ret ts H)
    (fun _ _ _ _ => False) c

theorem AWpR_eq (hs : Hints) : ∀ c : Code, AWpR P T hs c = AWp P T hs c
  | .skip => by funext K ts H; rfl
  | .region _ ops false => by funext K ts H; unfold AWp; rw [← opsR_eq]; rfl
  | .region id ops true => by
    funext K ts H; unfold AWp
    have : planF P T ops.toList = planR P T ops.toList := by funext p; rw [planR_eq]
    rw [this]; rfl
  | .seq a b => by funext K ts H; unfold AWp; rw [← AWpR_eq hs a, ← AWpR_eq hs b]; rfl
  | .cond c a b => by funext K ts H; unfold AWp; rw [← AWpR_eq hs a, ← AWpR_eq hs b]; rfl
  | .block id c => by funext K ts H; unfold AWp; rw [← AWpR_eq hs c]; rfl
  | .loop c => by funext K ts H; unfold AWp; rw [← AWpR_eq hs c]; rfl
  | .rangeFunc .. => by funext K ts H; rfl
  | .exit id => by funext K ts H; rfl
  | .scope _ => by funext K ts H; rfl
  | .label _ => by funext K ts H; rfl
  | .goto _ => by funext K ts H; rfl
  | .ret => by funext K ts H; rfl
  | .refuse _ => by funext K ts H; rfl
end
end Go.Aw
end
section
/-
  How a contract is begun; how a table of types is proved.
-/
set_option linter.unusedSectionVars false
namespace Go.Aw
variable [Base]
section
variable {P : Program} {T : Tab}

def undefF : Nat → (List Value → Prop) → Prop
  | 0, k => k []
  | n + 1, k => undefF n fun l => k (undef :: l)
def startF : List Value → Nat → (List Value → Prop) → Prop
  | [], n, k => undefF n k
  | v :: l, n + 1, k => startF l n fun l' => k (v :: l')
  | v :: l, 0, k => startF l 0 fun l' => k (v :: l')

theorem undef_iff {n : Nat} {k : List Value → Prop} (h : undefF n k) : k (List.replicate n undef) := by
  induction n generalizing k with
  | zero => exact h
  | succ n ih => exact ih (k := fun l => k (undef :: l)) h
theorem start_iff : ∀ {l : List Value} {n : Nat} {k : List Value → Prop}, startF l n k → k (l ++ List.replicate (n - l.length) undef)
  | [], n, k, h => by simpa using undef_iff h
  | v :: l, n + 1, k, h => by
    have := start_iff (l := l) (n := n) (k := fun l' => k (v :: l')) h
    simpa [Nat.add_sub_add_right] using this
  | v :: l, 0, k, h => by
    have := start_iff (l := l) (n := 0) (k := fun l' => k (v :: l')) h
    simpa using this

/-- **A contract of a function, by its code.** -/
theorem ACalls.code (hT : TabOk P T) (hs : Hints) {f : FuncId} {fn : Func} {args : List Value} {H : List Blk} {R : Value → List Blk → Prop} (hf : P.funcs[f]? = some fn) (hcall : ∀ (args : Array Value) (w : World), (callFunc f args).run P w = .ok (.enter f args) w)
    (hok : codeOk T hs (bodyOf fn) = true) (h : startF args fn.ntmps fun ts => AWpR P T hs (bodyOf fn) (postF T fn.results.toList (Tidy H R)) ts H) : ACalls P f args H R := by
  rw [AWpR_eq] at h
  cases hb : fn.body with
  | none => rw [bodyOf, hb] at hok; simp [codeOk] at hok
  | some c =>
    have hc : bodyOf fn = c := by rw [bodyOf, hb]
    rw [hc] at hok h
    exact ACalls.make hT hs hf hb hcall hok (start_iff h)

def AllT (p : Nat → TInf → Prop) : Nat → Tab → Prop
  | _, [] => True
  | n, o :: T => (match o with | some i => p n i | none => True) ∧ AllT p (n + 1) T

theorem allT_get {p : Nat → TInf → Prop} : ∀ {n : Nat} {T : Tab}, AllT p n T → ∀ {t : Nat} {i : TInf}, T[t]? = some (some i) → p (n + t) i
  | n, [], _, t, i, h => by simp at h
  | n, o :: T, h, t, i, ht => by
    cases t with
    | zero => simp at ht; subst ht; exact h.1
    | succ t =>
      have := allT_get h.2 (t := t) (i := i) (by simpa using ht)
      rw [show n + (t + 1) = n + 1 + t by omega]; exact this

structure TFact (P : Program) (t : Nat) (i : TInf) : Prop where
  und : P.underlying t = some i.desc
  info : ∃ (f : TypeInfo) (z : Value), P.info? t = some f ∧ f.size = i.size ∧ f.bytes = i.bytes ∧ f.zero = some z ∧ z.cells.toList = i.zero
  zero : i.zero.all (okv 6) = true
  eq : i.eqok = true → P.eqGuardType P.depth t = false ∧ P.stoodInHeld t = false
  flds : ∀ fs : Array Field, i.desc = .struct fs → ∀ f ∈ fs, (P.info? f.type).isSome = true

theorem TabOk.of (hm : P.follows .mixedOrders = true) (h : AllT (TFact P) 0 T) : TabOk P T := by
  have g : ∀ {t : Nat} {i : TInf}, T[t]? = some (some i) → TFact P t i := fun {t i} ht => by simpa using allT_get h ht
  exact ⟨fun t i ht => (g ht).und, fun t i ht => (g ht).info, fun t i ht μ => okvs_sound (g ht).zero μ, fun t i ht => (g ht).eq, fun t i fs ht => (g ht).flds fs, hm⟩

theorem flds_of {fs : Array Field} (h : fs.all (fun f => (P.info? f.type).isSome) = true) : ∀ f ∈ fs, (P.info? f.type).isSome = true := Array.all_eq_true_iff_forall_mem.1 h

end
end Go.Aw
end
section
/-
  What is kept at the end of a function that hands back new blocks.
-/
set_option linter.unusedSectionVars false
namespace Go.Aw
variable [Base]
section
variable {P : Program} {T : Tab}

def idxF : List Nat → Nat → Nat → Option Nat
  | [], _, _ => none
  | a :: l, i, n => match Nat.beq a i with | true => some n | false => idxF l i (n + 1)
/-- The new name of each of 'm' old ones: its place in 'ord'; what is not there gets a name that is none. -/
def tauOf (ord : List Nat) (m : Nat) : List Nat := (List.range m).map fun i => match idxF ord i 0 with | some j => j | none => ord.length + i
def nodupB : List Nat → Bool
  | [] => true
  | a :: l => l.all (fun b => !(Nat.beq a b)) && nodupB l
def prefB : Nat → Nat → List Nat → Bool
  | 0, _, _ => true
  | _ + 1, _, [] => false
  | n + 1, i, a :: l => Nat.beq a i && prefB n (i + 1) l
def pickF (τ : List Nat) (H : List Blk) : List Nat → (List Blk → Prop) → Prop
  | [], k => k []
  | i :: ord, k => getF H i fun b => renB τ b fun b' => pickF τ H ord fun H' => k (b' :: H')
/-- The blocks: the old ones name no dropped ones (and are no read-only ones). -/
def boundF (n : Nat) : List Blk → (Unit → Prop) → Prop
  | [], k => k ()
  | b :: H, k => match b with
    | .cells c _ => Req (c.all (bdv 6 n)) fun _ => boundF n H k
    | .gone => boundF n H k
    | .ro _ => False

/-- Of the blocks at the end those of 'ord' are kept, in that order; the first of them are those that stood at the beginning. -/
def Keep (ord : List Nat) (H : List Blk) (R : Value → List Blk → Prop) : Value → List Blk → Prop := fun v H' =>
  Req (prefB H.length 0 ord && nodupB ord && ord.all (fun i => Nat.blt i H'.length)) fun _ =>
    renV 6 (tauOf ord H'.length) v fun v2 => Req (bdv 6 ord.length v2) fun _ =>
      pickF (tauOf ord H'.length) H' ord fun H2 => boundF ord.length H2 fun _ => R v2 H2

theorem VR.back_cut {τ μ ν : List Nat} {n : Nat} (hτ : ∀ i j b : Nat, j < n → τ[i]? = some j → μ[i]? = some b → ν[j]? = some b) : ∀ (d : Nat) {v v' cv : Value}, bdv d n v' = true → VR τ v v' → VR μ v cv → VR ν v' cv
  | 0, _, _, _, h, _, _ => by simp [bdv] at h
  | d + 1, v, v', cv, h, hr, hk => by
    have all : ∀ (c c' c'' : Array Value), c'.toList.all (bdv d n) = true → c.size = c'.size → (∀ (i : Nat) (x y : Value), c[i]? = some x → c'[i]? = some y → VR τ x y) → (∀ (i : Nat) (x y : Value), c[i]? = some x → c''[i]? = some y → VR μ x y) →
        ∀ (i : Nat) (x y : Value), c'[i]? = some x → c''[i]? = some y → VR ν x y := fun c c' c'' hc hs h1 h2 i x y hx hy => by
      have hi : i < c.size := by have := (Array.getElem?_eq_some_iff.1 hx).1; omega
      exact VR.back_cut hτ d ((List.all_eq_true.1 hc) x (Array.mem_toList_iff.2 (Array.mem_of_getElem? hx))) (h1 i _ x (Array.getElem?_eq_getElem hi) hx) (h2 i _ y (Array.getElem?_eq_getElem hi) hy)
    cases hr with
    | bool b => cases hk; exact .bool b
    | int q m => cases hk; exact .int q m
    | str s => cases hk; exact .str s
    | ptrN => cases hk; exact .ptrN
    | ptr i j o hi => cases hk with | ptr _ b _ hb => exact .ptr _ _ _ (hτ i j b (blt_lt (by simpa [bdv] using h)) hi hb)
    | slN l c => cases hk; exact .slN l c
    | sl i j o l c hi => cases hk with | sl _ b _ _ _ hb => exact .sl _ _ _ _ _ (hτ i j b (blt_lt (by simpa [bdv] using h)) hi hb)
    | fn f a a' c c' ha hc ra rc =>
      simp only [bdv, Bool.and_eq_true] at h
      cases hk with
      | fn _ _ a'' _ c'' ha' hc' ra' rc' => exact .fn _ _ _ _ _ (by omega) (by omega) (all a a' a'' h.1 ha ra ra') (all c c' c'' h.2 hc rc rc')
    | nilF => cases hk; exact .nilF
    | nilI => cases hk; exact .nilI
    | ifc t v v' hv => cases hk with | ifc _ _ w h' => exact .ifc _ _ _ (VR.back_cut hτ d (by simpa [bdv] using h) hv h')
    | agg c c' hc rc => cases hk with | agg _ c'' hc' rc' => exact .agg _ _ (by omega) (all c c' c'' (by simpa [bdv] using h) hc rc rc')
    | tup c c' hc rc => cases hk with | tup _ c'' hc' rc' => exact .tup _ _ (by omega) (all c c' c'' (by simpa [bdv] using h) hc rc rc')

theorem idx_iff : ∀ {l : List Nat} {i n j : Nat}, idxF l i n = some j → ∃ k, j = n + k ∧ l[k]? = some i
  | [], _, _, _, h => by simp [idxF] at h
  | a :: l, i, n, j, h => by
    unfold idxF at h
    cases hb : Nat.beq a i with
    | true => simp only [hb, Option.some.injEq] at h; exact ⟨0, by omega, by simp [Nat.eq_of_beq_eq_true hb]⟩
    | false =>
      simp only [hb] at h
      obtain ⟨k, hk, hl⟩ := idx_iff h
      exact ⟨k + 1, by omega, by simpa using hl⟩

theorem nodupB_iff : ∀ {l : List Nat}, nodupB l = true → l.Nodup
  | [], _ => List.nodup_nil
  | a :: l, h => by
    simp only [nodupB, Bool.and_eq_true] at h
    refine List.nodup_cons.2 ⟨fun hm => ?_, nodupB_iff h.2⟩
    have := (List.all_eq_true.1 h.1) a hm
    simp at this

theorem prefB_iff : ∀ {n i : Nat} {l : List Nat}, prefB n i l = true → ∀ k, k < n → l[k]? = some (i + k)
  | 0, _, _, _, k, hk => by omega
  | n + 1, i, [], h, _, _ => by simp [prefB] at h
  | n + 1, i, a :: l, h, k, hk => by
    simp only [prefB, Bool.and_eq_true] at h
    cases k with
    | zero => simp [Nat.eq_of_beq_eq_true h.1]
    | succ k => have := prefB_iff h.2 k (by omega); simpa [Nat.add_assoc, Nat.add_comm 1] using this

theorem pick_iff {τ : List Nat} {H : List Blk} : ∀ {ord : List Nat} {k : List Blk → Prop}, pickF τ H ord k → ∃ H', k H' ∧ H'.length = ord.length ∧ ∀ j i : Nat, ord[j]? = some i → ∃ b b', H[i]? = some b ∧ H'[j]? = some b' ∧ BlkR τ b b'
  | [], k, h => ⟨[], h, rfl, by simp⟩
  | i :: ord, k, h => by
    unfold pickF at h
    obtain ⟨b, hb, h⟩ := getF_iff h
    obtain ⟨b', h, hbr⟩ := renB_iff h
    obtain ⟨H', hk, hl, hr⟩ := pick_iff h
    refine ⟨b' :: H', hk, by simp [hl], fun j i' hj => ?_⟩
    cases j with
    | zero => simp at hj; subst hj; exact ⟨b, b', hb, rfl, hbr⟩
    | succ j => simpa using hr j i' (by simpa using hj)

theorem bound_iff {n : Nat} : ∀ {H : List Blk} {k : Unit → Prop}, boundF n H k → k () ∧ ∀ (i : Nat) (b : Blk), H[i]? = some b → (∃ c e, b = .cells c e ∧ c.all (bdv 6 n) = true) ∨ b = .gone
  | [], k, h => ⟨h, by simp⟩
  | b :: H, k, h => by
    cases b with
    | cells c e =>
      unfold boundF at h
      replace h := req_iff h
      obtain ⟨h1, h⟩ := h
      obtain ⟨hk, hr⟩ := bound_iff h
      refine ⟨hk, fun i x hx => ?_⟩
      cases i with
      | zero => simp at hx; subst hx; exact .inl ⟨c, e, rfl, h1⟩
      | succ i => exact hr i x (by simpa using hx)
    | gone =>
      obtain ⟨hk, hr⟩ := bound_iff (H := H) h
      refine ⟨hk, fun i x hx => ?_⟩
      cases i with
      | zero => simp at hx; subst hx; exact .inr rfl
      | succ i => exact hr i x (by simpa using hx)
    | ro f => exact False.elim h

theorem ACalls.keep {f : FuncId} {args : List Value} {H : List Blk} {R : Value → List Blk → Prop} (ord : List Nat) (h : ACalls P f args H (Keep ord H R)) : ACalls P f args H R :=
  ⟨fun μ w cargs hv hrel => by
    obtain ⟨h1, h2⟩ := h.out μ w cargs hv hrel
    refine ⟨h1, h2.mono fun e w' hh => ?_⟩
    obtain ⟨v, cv, μ', H', he, h3, h4, h5, h6⟩ := hh
    obtain ⟨ho, h6⟩ := req_iff h6
    simp only [Bool.and_eq_true] at ho
    obtain ⟨⟨hpre, hnd⟩, hlt⟩ := ho
    have hpre := prefB_iff hpre
    have hnd := nodupB_iff hnd
    have hlt : ∀ i ∈ ord, i < H'.length := fun i hi => blt_lt ((List.all_eq_true.1 hlt) i hi)
    obtain ⟨v2, h6, hv2⟩ := renV_iff 6 _ _ h6
    obtain ⟨hb, h6⟩ := req_iff h6
    obtain ⟨H2, h6, hl2, hpick⟩ := pick_iff h6
    obtain ⟨h6, hbound⟩ := bound_iff h6
    let ν := ord.map fun i => μ'.getD i 0
    have hν : ∀ {j i : Nat}, ord[j]? = some i → ν[j]? = μ'[i]? := fun {j i} hj => by
      have hi : i < μ'.length := by rw [← h4.len]; exact hlt i (List.mem_of_getElem? hj)
      simp [ν, hj, hi]
    have hν' : ∀ {j b : Nat}, ν[j]? = some b → ∃ i, ord[j]? = some i ∧ μ'[i]? = some b := fun {j b} hj => by
      have hjl : j < ord.length := by have := (List.getElem?_eq_some_iff.1 hj).1; simpa [ν] using this
      exact ⟨ord[j], List.getElem?_eq_getElem hjl, by rw [← hν (List.getElem?_eq_getElem hjl)]; exact hj⟩
    have hτ : ∀ i j b : Nat, j < ord.length → (tauOf ord H'.length)[i]? = some j → μ'[i]? = some b → ν[j]? = some b := fun i j b hj hi hb => by
      have hil : i < H'.length := by rw [h4.len]; exact (List.getElem?_eq_some_iff.1 hb).1
      unfold tauOf at hi
      rw [List.getElem?_map, List.getElem?_range hil] at hi
      simp only [Option.map_some, Option.some.injEq] at hi
      cases hx : idxF ord i 0 with
      | none => simp only [hx] at hi; omega
      | some m =>
        simp only [hx] at hi
        obtain ⟨k, hk, hl⟩ := idx_iff hx
        have : j = k := by omega
        subst this
        rw [hν hl]; exact hb
    obtain ⟨ext, rfl, hext⟩ := h5.pre
    have hol : H.length ≤ ord.length := by
      rcases Nat.lt_or_ge ord.length H.length with h | h
      · have := hpre ord.length h
        simp at this
      · exact h
    have hold : ∀ j : Nat, j < μ.length → ν[j]? = μ[j]? := fun j hj => by
      rw [hν (hpre j (by rw [hrel.len]; exact hj)), Nat.zero_add, List.getElem?_append_left hj]
    have hcells : ∀ (j b : Nat) (b' : Blk), H2[j]? = some b' → ν[j]? = some b → ∃ i b0, ord[j]? = some i ∧ (μ ++ ext)[i]? = some b ∧ H'[i]? = some b0 ∧ BlkR (tauOf ord H'.length) b0 b' := fun j b b' hb' hj => by
      obtain ⟨i, hi, hib⟩ := hν' hj
      obtain ⟨b0, b1, e1, e2, e3⟩ := hpick j i hi
      rw [hb'] at e2; cases e2
      exact ⟨i, b0, hi, hib, e1, e3⟩
    refine ⟨v2, cv, ν, H2, he, VR.back_cut hτ 6 hb hv2 h3, ⟨by simp [hl2, ν], ?_, ?_, ?_, ?_, ⟨fun b hb => by
      obtain ⟨j, hj⟩ := List.mem_iff_getElem?.1 hb
      obtain ⟨i, _, hi⟩ := hν' hj
      exact h4.base.hi b (List.mem_of_getElem? hi), h4.base.le, h4.base.eq⟩⟩, ⟨⟨ν.drop μ.length, ?_, ?_⟩, h5.size, h5.os, h5.tape, h5.output, h5.same, ?_⟩, h6⟩
    · refine nodup_of fun i j b hi hj => ?_
      obtain ⟨s, hs, hsb⟩ := hν' hi
      obtain ⟨t, ht, htb⟩ := hν' hj
      have := nodup_inj h4.nd hsb htb
      subst this
      exact nodup_inj hnd hs ht
    · intro b hb
      obtain ⟨j, hj⟩ := List.mem_iff_getElem?.1 hb
      obtain ⟨i, _, hi⟩ := hν' hj
      exact h4.lt b (List.mem_of_getElem? hi)
    · intro j b c e hc hj
      obtain ⟨i, b0, hi, hib, e1, e3⟩ := hcells j b _ hc hj
      cases e3 with
      | cells c0 _ _ hc0 =>
        obtain ⟨c', hw, hcr⟩ := h4.blk i b c0 e e1 hib
        refine ⟨c', hw, by rw [← hc0.1]; exact hcr.1, fun m x y hx hy => ?_⟩
        rcases hbound j _ hc with ⟨c2, e2, h7, h8⟩ | h7
        · cases h7
          have hm : m < c0.length := by rw [hc0.1]; exact (List.getElem?_eq_some_iff.1 hx).1
          exact VR.back_cut hτ 6 ((List.all_eq_true.1 h8) x (List.mem_of_getElem? hx)) (hc0.2 m _ x (List.getElem?_eq_getElem hm) hx) (hcr.2 m _ y (List.getElem?_eq_getElem hm) hy)
        · cases h7
    · intro j b f hc hj
      rcases hbound j _ hc with ⟨c2, e2, h7, h8⟩ | h7 <;> cases h7
    · apply List.ext_getElem?
      intro j
      by_cases hj : j < μ.length
      · rw [List.getElem?_append_left hj, hold j hj]
      · rw [List.getElem?_append_right (by omega), List.getElem?_drop]
        congr 1; omega
    · intro b hb
      obtain ⟨j, hj⟩ := List.mem_iff_getElem?.1 hb
      rw [List.getElem?_drop] at hj
      obtain ⟨i, hi, hib⟩ := hν' hj
      by_cases hil : i < μ.length
      · exfalso
        have := nodup_inj hnd hi (by rw [hpre i (by rw [hrel.len]; exact hil), Nat.zero_add])
        omega
      · rw [List.getElem?_append_right (by omega)] at hib
        exact hext b (List.mem_of_getElem? hib)
    · intro j c e hj hc
      have hjl : j < ν.length := by simp [ν]; omega
      obtain ⟨i, b0, hi, _, e1, e3⟩ := hcells j _ _ hc (List.getElem?_eq_getElem hjl)
      have : i = j := by
        have := hpre j hj
        rw [hi] at this; simpa using this
      subst this
      cases e3 with
      | cells c0 _ _ _ => exact h5.own i c0 e hj e1⟩

/-- **A contract of a function that hands back new blocks, by its code.** -/
theorem ACalls.codeN (hT : TabOk P T) (hs : Hints) {f : FuncId} {fn : Func} {args : List Value} {H : List Blk} {R : Value → List Blk → Prop} (hf : P.funcs[f]? = some fn) (hcall : ∀ (args : Array Value) (w : World), (callFunc f args).run P w = .ok (.enter f args) w)
    (hok : codeOk T hs (bodyOf fn) = true) (ord : List Nat) (h : startF args fn.ntmps fun ts => AWpR P T hs (bodyOf fn) (postF T fn.results.toList (Keep ord H R)) ts H) : ACalls P f args H R := by
  rw [AWpR_eq] at h
  cases hb : fn.body with
  | none => rw [bodyOf, hb] at hok; simp [codeOk] at hok
  | some c =>
    have hc : bodyOf fn = c := by rw [bodyOf, hb]
    rw [hc] at hok h
    exact (ACalls.intro hT hs hf hb hcall hok (start_iff h)).keep ord

end
end Go.Aw
end
section
/-
  From a contract to a law's row: arguments without pointers; what a law's row asks of the end.
-/
set_option linter.unusedSectionVars false
namespace Go.Aw
variable [Base]
open Go.ChangeShapes Go.WideShapes Go.RowKit
section
variable {P : Program} {T : Tab}

/-- From a contract that asks nothing of memory. -/
theorem walk_of {f : FuncId} {args : List Value} (h : ACalls P f args [] fun v _ => v = .bool true) (hv : VRs [] args args) (w : World) (hbase : BaseOk [] w) :
    Calls P f args.toArray w fun e w' => e = .returned (.bool true) ∧ Below w.heap.size w w' := by
  obtain ⟨_, h2⟩ := h.out [] w args hv ⟨rfl, List.nodup_nil, by simp, by simp, by simp, hbase⟩
  refine h2.mono fun e w' hh => ?_
  obtain ⟨v, cv, μ', H', rfl, hvr, hr, hx, rfl⟩ := hh
  cases hvr
  exact ⟨rfl, hx.os, hx.tape, hx.output, hx.size, fun k hk => hx.same k hk (by rintro ⟨i, c, e, hi, _⟩; simp at hi)⟩

theorem trodAll_below {H : Type} {enc : TypeId × Value → H} (hl : laidOutB P = true) {W W' : World} (hb : Below W.heap.size W W') : ∀ (ts : List TypeId) (vs : List Value) (ds : List (DataW H)) (ps : List MemPlace),
    (∀ t ∈ ts, P.readableRec t = true ∧ t < P.types.size) → (∀ p ∈ ps, p.block < W.heap.size) → DataW.TrodAll enc P W 0 (fun _ => true) true ts vs ds ps → DataW.TrodAll enc P W' 0 (fun b => decide (b < W.heap.size)) true ts vs ds ps
  | [], vs, ds, ps, _, _, h => by
    obtain ⟨rfl, rfl, rfl⟩ := trodAll_nil h
    exact rfl
  | t :: ts, vs, ds, ps, ht, hlt, h => by
    obtain ⟨v, vs', d, ds', p, q, rfl, rfl, rfl, h1, h2⟩ := trodAll_cons h
    obtain ⟨hr, hs⟩ := ht t (List.mem_cons_self ..)
    exact ⟨p, q, Below.trod hl hr hs h1 hb fun x hx => hlt x (List.mem_append_left _ hx), trodAll_below hl hb ts vs' ds' q (fun t h => ht t (List.mem_cons_of_mem _ h)) (fun x hx => hlt x (List.mem_append_right _ hx)) h2, rfl⟩

/-- A law's end: it hands back true, its arguments read as they did. -/
theorem post_law {H : Type} {enc : TypeId × Value → H} {f : Func} {s : ChangeSpec} {W W' : World} {args : Array Value} {ds gs : List (DataW H)} {before : List MemPlace}
    (hl : laidOutB P = true) (hW : DataW.Whole enc P f.params.toList s.vars false W args.toList ds gs before) (hvars : s.vars = [])
    (hts : f.params.toList.all (fun t => P.readableRec t && decide (t < P.types.size)) = true) {tb : TypeId} (hb : P.underlying tb = some .bool) (hres : f.resultTypes = #[tb])
    (hfn : s.fn H ds = { results := [.lit (.bool true)], args := ds }) (hbelow : Below W.heap.size W W') : s.post enc P f false true false false W args (.bool true) W' := by
  have hlt : ∀ p ∈ before, p.block < W.heap.size := fun p hp => hW.lt p hp
  have hW' := hW
  obtain ⟨p, q, hA, hV, rfl, hfz, hnd⟩ := hW
  rw [hvars] at hV
  obtain ⟨rfl, rfl⟩ := trodVars_none hV
  simp only [List.append_nil] at hlt hW' hfz
  refine ⟨ds, [], p, [], p, [], hW', ?_, ?_, ?_, hbelow.frame _, fun h => by cases h⟩
  · rw [List.append_nil, hfn, hres]
    exact trodAll_cons_mk (shut_bool hb true) trodAll_mk0
  · rw [List.append_nil, hfn]
    refine trodAll_below hl hbelow _ _ _ _ (fun t ht => ?_) hlt hA
    have := (List.all_eq_true.1 hts) t ht
    simp only [Bool.and_eq_true, decide_eq_true_eq] at this
    exact this
  · rw [hvars, List.append_nil, hfn]
    exact rfl

/-! ### Arguments that are numbers and truth values alone -/
inductive CK where
  | int (k : IntKind)
  | bool
def CK.fits : CK → Value → Prop
  | .int k, v => ∃ n, v = .int k n ∧ (Lit.int k n).wf = true
  | .bool, v => ∃ b, v = .bool b

/-- The kinds of a struct's cells, one behind the other. -/
def fldsT (rec : TypeId → Option (List CK)) (T : Tab) : Nat → List Field → Option (List CK)
  | _, [] => some []
  | o, f :: fs => match T[f.type]? with
    | some (some j) => match rec f.type, fldsT rec T (o + j.size) fs with
      | some l, some m => if f.offset = o ∧ l.length = j.size then some (l ++ m) else none
      | _, _ => none
    | _ => none
/-- The kinds of a type's cells, one behind the other. -/
def flatT (T : Tab) : Nat → TypeId → Option (List CK)
  | 0, _ => none
  | d + 1, t => match T[t]? with
    | some (some i) => match i.desc with
      | .int k => some [.int k]
      | .bool => some [.bool]
      | .array n e => match T[e]?, flatT T d e with
        | some (some j), some l => if l.length = j.size ∧ n * j.size = i.size then some (List.replicate n l).flatten else none
        | _, _ => none
      | .struct fs => match fldsT (flatT T d) T 0 fs.toList with
        | some l => if l.length = i.size then some l else none
        | none => none
      | _ => none
    | _ => none

def FitsAll (ks : List CK) (cs : List Value) : Prop := cs.length = ks.length ∧ ∀ (i : Nat) (k : CK) (v : Value), ks[i]? = some k → cs[i]? = some v → k.fits v

theorem flds_fit {H : Type} {enc : TypeId × Value → H} (hT : TabOk P T) {w : World} {base : Nat} {spare : Nat → Bool} {held : Bool} {rec : TypeId → Option (List CK)} {n : Nat} {cs : List Value}
    (hrec : ∀ (t : TypeId) (ks : List CK) (cs : List Value) (x : DataW H × List MemPlace), rec t = some ks → DataW.trod enc P w base spare held n t cs = some x → FitsAll ks cs) :
    ∀ (fs : List Field) (o : Nat) (ks : List CK), fldsT rec T o fs = some ks → (∀ f ∈ fs, ∃ x, DataW.trod enc P w base spare held n f.type ((cs.drop f.offset).take (P.cellsOf f.type)) = some x) →
      ∀ (i : Nat) (k : CK) (v : Value), ks[i]? = some k → cs[o + i]? = some v → k.fits v
  | [], o, ks, h, _, i, k, v, hk, _ => by simp [fldsT] at h; subst h; simp at hk
  | f :: fs, o, ks, h, hx, i, k, v, hk, hv => by
    unfold fldsT at h
    split at h
    · rename_i j hj
      split at h
      · rename_i l m hl hm
        split at h
        · rename_i hc
          obtain ⟨hfo, hll⟩ := hc
          cases h
          obtain ⟨x, hx1⟩ := hx f (List.mem_cons_self ..)
          have hfit := hrec _ _ _ _ hl hx1
          rw [hT.cellsOf hj, hfo] at hfit
          by_cases hi : i < l.length
          · rw [List.getElem?_append_left hi] at hk
            refine hfit.2 i k v hk ?_
            rw [List.getElem?_take, if_pos (by omega), List.getElem?_drop]; exact hv
          · rw [List.getElem?_append_right (by omega)] at hk
            exact flds_fit hT hrec fs (o + j.size) m hm (fun f hf => hx f (List.mem_cons_of_mem _ hf)) (i - l.length) k v hk (by rw [show o + j.size + (i - l.length) = o + i by omega]; exact hv)
        · cases h
      · cases h
    · cases h

theorem flat_fit {H : Type} {enc : TypeId × Value → H} (hT : TabOk P T) {w : World} {base : Nat} {spare : Nat → Bool} {held : Bool} : ∀ (d : Nat) (n : Nat) (t : TypeId) (ks : List CK) (cs : List Value) (x : DataW H × List MemPlace),
    flatT T d t = some ks → DataW.trod enc P w base spare held n t cs = some x → FitsAll ks cs
  | 0, _, _, _, _, _, h, _ => by simp [flatT] at h
  | d + 1, n, t, ks, cs, x, h, hx => by
    unfold flatT at h
    split at h
    · rename_i i hi
      have hu := hT.und t i hi
      split at h
      · rename_i k hd
        cases h
        obtain ⟨m, rfl, _, hw⟩ := DataW.trod_int (hu.trans (by rw [hd])) hx
        refine ⟨rfl, fun i k v hk hv => ?_⟩
        cases i with
        | zero => simp at hk hv; subst hk; subst hv; exact ⟨m, rfl, hw⟩
        | succ i => simp at hk
      · rename_i hd
        cases h
        obtain ⟨m, rfl, _⟩ := DataW.trod_bool (hu.trans (by rw [hd])) hx
        refine ⟨rfl, fun i k v hk hv => ?_⟩
        cases i with
        | zero => simp at hk hv; subst hk; subst hv; exact ⟨m, rfl⟩
        | succ i => simp at hk
      · rename_i m e hd
        split at h
        · rename_i j l hj hl
          split at h
          · rename_i hc
            obtain ⟨hll, hsz⟩ := hc
            cases h
            obtain ⟨xs, q, _, _, hlen, hxl, hch⟩ := DataW.trod_array (hu.trans (by rw [hd])) hx
            rw [hT.cellsOf hi] at hlen
            have hks : ∀ m : Nat, ((List.replicate m l).flatten).length = m * l.length := fun m => by
              induction m with
              | zero => simp
              | succ m ih => rw [List.replicate_succ, List.flatten_cons, List.length_append, ih, Nat.succ_mul]; omega
            have hget : ∀ (m i : Nat) (k : CK), ((List.replicate m l).flatten)[i]? = some k → i / l.length < m ∧ l[i % l.length]? = some k := fun m => by
              induction m with
              | zero => intro i k hk; simp at hk
              | succ m ih =>
                intro i k hk
                rw [List.replicate_succ, List.flatten_cons] at hk
                by_cases hi : i < l.length
                · rw [List.getElem?_append_left hi] at hk
                  rw [Nat.div_eq_of_lt hi, Nat.mod_eq_of_lt hi]
                  exact ⟨Nat.succ_pos _, hk⟩
                · rw [List.getElem?_append_right (by omega)] at hk
                  obtain ⟨h1, h2⟩ := ih _ _ hk
                  have hpos : 0 < l.length := by
                    rcases Nat.eq_zero_or_pos l.length with h0 | h0
                    · rw [h0] at h2; simp at h2
                      rw [List.length_eq_zero_iff.1 h0] at h2; simp at h2
                    · exact h0
                  refine ⟨?_, ?_⟩
                  · rw [Nat.div_eq_sub_div hpos (by omega)]; omega
                  · rw [Nat.mod_eq_sub_mod (by omega)]; exact h2
            refine ⟨by rw [hlen, hks, hll, hsz], fun i k v hk hv => ?_⟩
            obtain ⟨h1, h2⟩ := hget _ _ _ hk
            have hch := hch (i / l.length) h1
            have hxs : xs[i / l.length]? = some xs[i / l.length] := List.getElem?_eq_getElem (by omega)
            rw [hxs, hT.cellsOf hj] at hch
            have hfit := flat_fit hT d q e l _ _ hl hch
            refine hfit.2 (i % l.length) k v h2 ?_
            have hpos : 0 < l.length := by
              rcases Nat.eq_zero_or_pos l.length with h0 | h0
              · rw [List.length_eq_zero_iff.1 h0] at h2; simp at h2
              · exact h0
            have hm := Nat.mod_lt i hpos
            rw [List.getElem?_take, if_pos (by omega), List.getElem?_drop]
            have hdm := Nat.div_add_mod i l.length
            rw [show i / l.length * j.size + i % l.length = i by rw [← hll, Nat.mul_comm]; exact hdm]
            exact hv
          · cases h
        · cases h
      · rename_i fs hd
        split at h
        · rename_i l hl
          split at h
          · rename_i hc
            cases h
            obtain ⟨xs, q, _, _, hlen, hxl, hch⟩ := DataW.trod_struct (hu.trans (by rw [hd])) hx
            rw [hT.cellsOf hi] at hlen
            refine ⟨by rw [hlen, hc], fun i k v hk hv => ?_⟩
            refine flds_fit (enc := enc) (w := w) (base := base) (spare := spare) (held := held) hT (fun t ks cs x => flat_fit hT d q t ks cs x) fs.toList 0 _ hl (fun f hf => ?_) i k v hk (by simpa using hv)
            obtain ⟨m, hm⟩ := List.mem_iff_getElem?.1 hf
            have hml : m < xs.length := by rw [hxl]; have := (List.getElem?_eq_some_iff.1 hm).1; simpa using this
            have := hch m f (by simpa using hm)
            rw [List.getElem?_eq_getElem hml] at this
            exact ⟨_, this⟩
          · cases h
        · cases h
      · cases h
    · cases h

theorem CK.fits_vr {k : CK} {v : Value} (h : k.fits v) (μ : List Nat) : VR μ v v := by
  cases k with
  | int k => obtain ⟨n, rfl, _⟩ := h; exact .int _ _
  | bool => obtain ⟨b, rfl⟩ := h; exact .bool _

theorem FitsAll.vrs {ks : List CK} {cs : List Value} (h : FitsAll ks cs) (μ : List Nat) : VRs μ cs cs := ⟨rfl, fun i x y hx hy => by
  rw [hx] at hy; cases hy
  have hi : i < ks.length := by rw [← h.1]; exact (List.getElem?_eq_some_iff.1 hx).1
  exact CK.fits_vr (h.2 i _ x (List.getElem?_eq_getElem hi) hx) μ⟩

/-- An array or a struct of numbers and truth values, by value. -/
theorem open_flat {H : Type} {enc : TypeId × Value → H} (hT : TabOk P T) {w : World} {base b0 : Nat} {r : Reach} {spare : Nat → Bool} {held : Bool} {t : TypeId} {i : TInf} (hi : T[t]? = some (some i)) (ha : isAggD i.desc = true) {ks : List CK} (hk : flatT T 8 t = some ks)
    {v : Value} {d : DataW H} {p : List MemPlace} (hv : Value.okWide P w r b0 t v) (h : DataW.Trod enc P w base spare held t v d p) : ∃ cs : List Value, v = .agg cs.toArray ∧ FitsAll ks cs := by
  have hu := hT.und t i hi
  have : ∃ cs, v = .agg cs := by
    unfold Value.okWide at hv
    rw [hu] at hv
    cases hd : i.desc <;> rw [hd] at ha hv <;> first | (simp [isAggD] at ha; done) | (obtain ⟨cs, rfl, _⟩ := hv; exact ⟨cs, rfl⟩)
  obtain ⟨cs, rfl⟩ := this
  obtain ⟨fuel, hf⟩ := h
  exact ⟨cs.toList, by simp, flat_fit hT 8 fuel t ks _ _ hk (by simpa [Value.cells] using hf)⟩

/-- A slice of such elements. -/
theorem open_flats {H : Type} {enc : TypeId × Value → H} (hT : TabOk P T) {w : World} {b0 : Nat} {r : Reach} {t e : TypeId} {i j : TInf} (hi : T[t]? = some (some i)) (hd : i.desc = .slice e) (hj : T[e]? = some (some j)) {ks : List CK} (hk : flatT T 8 e = some ks)
    {v : Value} {d : DataW H} {p : List MemPlace} (hv : Value.okWide P w r b0 t v) (h : DataW.Trod enc P w 0 (fun _ => true) true t v d p) :
    v = .slice none 0 0 ∨ ∃ (b off len cap : Nat) (E : Nat → List Value), v = .slice (some ⟨b, off, none⟩) len cap ∧ len ≤ cap ∧ cap ≤ maxLen ∧ b < w.heap.size ∧ (∀ n, n < len → FitsAll ks (E n)) ∧ (∀ n, n < len → ∀ m x, (E n)[m]? = some x → w.cell? ⟨b, off + n * j.size + m, none⟩ = some x) := by
  have hu := hT.und t i hi
  have hu' : P.underlying t = some (.slice e) := hu.trans (by rw [hd])
  obtain ⟨a0, len, cap, rfl⟩ := okWide_slice hu' hv
  obtain ⟨fuel, hf⟩ := h
  rcases Go.Deep.open_slice hu' (by simpa [Value.cells] using hf) with ⟨hc, _⟩ | ⟨a, len', cap', m, n, D, Pl, hc, _, hl, hm, hmm, _, hx⟩
  · left
    have := congrArg (fun l : List Value => l[0]?) hc
    simpa using this
  · right
    have he : (Value.slice a0 len cap) = .slice (some a) len' cap' := by
      have := congrArg (fun l : List Value => l[0]?) hc
      simpa using this
    simp only [Value.slice.injEq] at he
    obtain ⟨rfl, rfl, rfl⟩ := he
    simp only [if_true] at hmm
    have hhas : a.spot = none ∧ a.block < w.heap.size := by
      have hv' : World.has P w r b0 a e cap := by
        simp only [Value.okWide, hu', Cell.okWide, Cell.ok] at hv
        exact hv.2.2
      obtain ⟨_, hs, row, cells, hsh, _⟩ := hv'
      refine ⟨hs, ?_⟩
      unfold World.shape? at hsh
      split at hsh
      · rename_i c el h hc2
        exact (Array.getElem?_eq_some_iff.1 hc2).1
      · cases hsh
    obtain ⟨ab, ao, asp⟩ := a
    obtain ⟨hs, hlt⟩ := hhas
    simp only at hs hlt
    subst hs
    have hx' : ∀ i, i < len → ∃ cs', FitsAll ks cs' ∧ ∀ (m : Nat) (x : Value), cs'[m]? = some x → w.cell? ⟨ab, ao + i * j.size + m, none⟩ = some x := fun i hi => by
      obtain ⟨cs', h1, h2⟩ := hx i (by omega)
      refine ⟨cs', flat_fit hT 8 n e ks _ _ hk h2, fun m x hm => ?_⟩
      obtain ⟨_, hlen, hcell⟩ := World.cells?_some h1
      have hml := (List.getElem?_eq_some_iff.1 hm).1
      have := hcell m (by omega)
      rw [hm, hT.cellsOf hj] at this
      have hadd : ∀ (o n : Nat), (Addr.add ⟨ab, o, none⟩ n) = ⟨ab, o + n, none⟩ := fun o n => by
        unfold Addr.add; split
        · rename_i h0; subst h0; rfl
        · rfl
      rw [hadd, hadd] at this
      exact this
    refine ⟨ab, ao, len, cap, fun i => if h : i < len then (hx' i h).choose else [], rfl, hl, hm, hlt, fun n hn => ?_, fun n hn => ?_⟩
    · simp only [dif_pos hn]; exact (hx' n hn).choose_spec.1
    · simp only [dif_pos hn]; exact (hx' n hn).choose_spec.2

end
end Go.Aw
end
