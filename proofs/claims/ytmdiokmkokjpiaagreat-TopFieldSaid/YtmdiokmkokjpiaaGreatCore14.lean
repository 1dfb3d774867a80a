/-
  A contract over a small heap, used in a larger one.
-/
import Derived.Test.YtmdiokmkokjpiaaGreatCore13
set_option linter.all false
set_option linter.unusedVariables false
set_option linter.unusedSimpArgs false
set_option linter.unnecessarySimpa false
namespace Go.Aw
section
variable {P : Program} {T : Tab}

/-- A small number, forced. -/
def nF (n : Nat) (k : Nat → Prop) : Prop := match n with | 0 => k 0 | 1 => k 1 | 2 => k 2 | 3 => k 3 | 4 => k 4 | 5 => k 5 | 6 => k 6 | 7 => k 7 | 8 => k 8 | 9 => k 9 | 10 => k 10 | 11 => k 11 | 12 => k 12 | 13 => k 13 | 14 => k 14 | 15 => k 15 | 16 => k 16 | 17 => k 17 | 18 => k 18 | 19 => k 19 | 20 => k 20 | 21 => k 21 | 22 => k 22 | 23 => k 23 | 24 => k 24 | 25 => k 25 | 26 => k 26 | 27 => k 27 | 28 => k 28 | 29 => k 29 | 30 => k 30 | 31 => k 31 | 32 => k 32 | 33 => k 33 | 34 => k 34 | 35 => k 35 | 36 => k 36 | 37 => k 37 | 38 => k 38 | 39 => k 39 | n => k n
theorem nF_iff {n : Nat} {k : Nat → Prop} (h : nF n k) : k n := by
  unfold nF at h
  split at h <;> exact h
def renL (f : Value → VK → Prop) : List Value → (List Value → Prop) → Prop
  | [], k => k []
  | v :: l, k => f v fun v' => renL f l fun l' => k (v' :: l')
/-- A value, its names turned. -/
def renV : Nat → List Nat → Value → VK → Prop
  | 0, _, _, _ => False
  | d + 1, τ, v, k => match v with
    | .bool b => k (.bool b)
    | .int q n => k (.int q n)
    | .string s => k (.string s)
    | .pointer none => k (.pointer none)
    | .slice none l c => k (.slice none l c)
    | .nilFunc => k .nilFunc
    | .nilIface => k .nilIface
    | .pointer (some ⟨i, o, none⟩) => getF τ i fun j => nF j fun j => k (.pointer (some ⟨j, o, none⟩))
    | .slice (some ⟨i, o, none⟩) l c => getF τ i fun j => nF j fun j => k (.slice (some ⟨j, o, none⟩) l c)
    | .agg cs => renL (renV d τ) cs.toList fun l => k (.agg l.toArray)
    | .tuple cs => renL (renV d τ) cs.toList fun l => k (.tuple l.toArray)
    | .func (.func f) a c => renL (renV d τ) a.toList fun a => renL (renV d τ) c.toList fun c => k (.func (.func f) a.toArray c.toArray)
    | .iface t v => renV d τ v fun v => k (.iface t v)
    | _ => False
/-- What is read there names no block. -/
def FlatRo (f : Nat → Option Value) : Prop := ∀ (o : Nat) (v : Value), f o = some v → VR [] v v
theorem FlatRo.eq {f : Nat → Option Value} (h : FlatRo f) {o : Nat} {v cv : Value} (ho : f o = some v) {μ : List Nat} (hr : VR μ v cv) : cv = v := (((h o v ho).mono (by simp)).functional _ hr).symm
theorem FlatRo.vr {f : Nat → Option Value} (h : FlatRo f) {o : Nat} {v : Value} (ho : f o = some v) (μ : List Nat) : VR μ v v := (h o v ho).mono (by simp)
def renB (τ : List Nat) (b : Blk) (k : Blk → Prop) : Prop :=
  match b with
  | .cells c e => renL (renV 6 τ) c fun c' => k (.cells c' e)
  | .gone => k .gone
  | .ro f => FlatRo f ∧ k (.ro f)

theorem renL_iff {f : Value → VK → Prop} {τ : List Nat} (hf : ∀ v k, f v k → ∃ v', k v' ∧ VR τ v v') : ∀ {l : List Value} {k : List Value → Prop}, renL f l k → ∃ l', k l' ∧ VRs τ l l'
  | [], k, h => ⟨[], h, VRs.nil⟩
  | v :: l, k, h => by
    obtain ⟨v', h, hv⟩ := hf _ _ h
    obtain ⟨l', h, hl⟩ := renL_iff hf h
    exact ⟨v' :: l', h, VRs.cons hv hl⟩

theorem renV_iff {τ : List Nat} : ∀ (d : Nat) (v : Value) (k : VK), renV d τ v k → ∃ v', k v' ∧ VR τ v v'
  | 0, _, _, h => False.elim h
  | d + 1, v, k, h => by
    have arr : ∀ {c : Array Value} {l' : List Value}, VRs τ c.toList l' → ∀ (i : Nat) (x y : Value), c[i]? = some x → l'.toArray[i]? = some y → VR τ x y := fun {c l'} hl i x y hx hy => hl.2 i x y (by simpa using hx) (by simpa using hy)
    unfold renV at h
    split at h
    · exact ⟨_, h, .bool _⟩
    · exact ⟨_, h, .int _ _⟩
    · exact ⟨_, h, .str _⟩
    · exact ⟨_, h, .ptrN⟩
    · exact ⟨_, h, .slN _ _⟩
    · exact ⟨_, h, .nilF⟩
    · exact ⟨_, h, .nilI⟩
    · obtain ⟨j, hj, h⟩ := getF_iff h
      exact ⟨_, nF_iff h, .ptr _ _ _ hj⟩
    · obtain ⟨j, hj, h⟩ := getF_iff h
      exact ⟨_, nF_iff h, .sl _ _ _ _ _ hj⟩
    · obtain ⟨l', h, hl⟩ := renL_iff (renV_iff d) h
      exact ⟨_, h, .agg _ _ (by simpa using hl.1) (arr hl)⟩
    · obtain ⟨l', h, hl⟩ := renL_iff (renV_iff d) h
      exact ⟨_, h, .tup _ _ (by simpa using hl.1) (arr hl)⟩
    · obtain ⟨a', h, ha⟩ := renL_iff (renV_iff d) h
      obtain ⟨c', h, hc⟩ := renL_iff (renV_iff d) h
      exact ⟨_, h, .fn _ _ _ _ _ (by simpa using ha.1) (by simpa using hc.1) (arr ha) (arr hc)⟩
    · obtain ⟨v', h, hv⟩ := renV_iff d _ _ h
      exact ⟨_, h, .ifc _ _ _ hv⟩
    · exact False.elim h

/-- Turned by 'τ', then laid at 'ν': laid at 'μ' from the first. -/
theorem VR.back {τ μ ν : List Nat} (hτ : ∀ i j b : Nat, τ[i]? = some j → μ[i]? = some b → ν[j]? = some b) {v v' : Value} (h : VR τ v v') : ∀ {cv : Value}, VR μ v cv → VR ν v' cv := by
  induction h with
  | bool b => intro cv k; cases k; exact .bool b
  | int q n => intro cv k; cases k; exact .int q n
  | str s => intro cv k; cases k; exact .str s
  | ptrN => intro cv k; cases k; exact .ptrN
  | ptr i j o h => intro cv k; cases k with | ptr _ b _ hb => exact .ptr _ _ _ (hτ _ _ _ h hb)
  | slN l c => intro cv k; cases k; exact .slN l c
  | sl i j o l c h => intro cv k; cases k with | sl _ b _ _ _ hb => exact .sl _ _ _ _ _ (hτ _ _ _ h hb)
  | fn f a a' c c' ha hc ra rc iha ihc =>
    intro cv k
    cases k with
    | fn _ _ a'' _ c'' ha' hc' ra' rc' =>
      refine .fn _ _ _ _ _ (by omega) (by omega) (fun i x y hx hy => ?_) (fun i x y hx hy => ?_)
      · have hi : i < a.size := by have := (Array.getElem?_eq_some_iff.1 hx).1; omega
        exact iha i _ x (Array.getElem?_eq_getElem hi) hx (ra' i _ y (Array.getElem?_eq_getElem hi) hy)
      · have hi : i < c.size := by have := (Array.getElem?_eq_some_iff.1 hx).1; omega
        exact ihc i _ x (Array.getElem?_eq_getElem hi) hx (rc' i _ y (Array.getElem?_eq_getElem hi) hy)
  | nilF => intro cv k; cases k; exact .nilF
  | nilI => intro cv k; cases k; exact .nilI
  | ifc t v v' _ ih => intro cv k; cases k with | ifc _ _ w h' => exact .ifc _ _ _ (ih h')
  | agg c c' hc rc ihc =>
    intro cv k
    cases k with
    | agg _ c'' hc' rc' =>
      refine .agg _ _ (by omega) (fun i x y hx hy => ?_)
      have hi : i < c.size := by have := (Array.getElem?_eq_some_iff.1 hx).1; omega
      exact ihc i _ x (Array.getElem?_eq_getElem hi) hx (rc' i _ y (Array.getElem?_eq_getElem hi) hy)
  | tup c c' hc rc ihc =>
    intro cv k
    cases k with
    | tup _ c'' hc' rc' =>
      refine .tup _ _ (by omega) (fun i x y hx hy => ?_)
      have hi : i < c.size := by have := (Array.getElem?_eq_some_iff.1 hx).1; omega
      exact ihc i _ x (Array.getElem?_eq_getElem hi) hx (rc' i _ y (Array.getElem?_eq_getElem hi) hy)

/-- And the other way. -/
theorem VR.fore {τ μ ν : List Nat} (hτ : ∀ i j b : Nat, τ[i]? = some j → ν[j]? = some b → μ[i]? = some b) {v v' : Value} (h : VR τ v v') : ∀ {cv : Value}, VR ν v' cv → VR μ v cv := by
  induction h with
  | bool b => intro cv k; cases k; exact .bool b
  | int q n => intro cv k; cases k; exact .int q n
  | str s => intro cv k; cases k; exact .str s
  | ptrN => intro cv k; cases k; exact .ptrN
  | ptr i j o h => intro cv k; cases k with | ptr _ b _ hb => exact .ptr _ _ _ (hτ _ _ _ h hb)
  | slN l c => intro cv k; cases k; exact .slN l c
  | sl i j o l c h => intro cv k; cases k with | sl _ b _ _ _ hb => exact .sl _ _ _ _ _ (hτ _ _ _ h hb)
  | fn f a a' c c' ha hc ra rc iha ihc =>
    intro cv k
    cases k with
    | fn _ _ a'' _ c'' ha' hc' ra' rc' =>
      refine .fn _ _ _ _ _ (by omega) (by omega) (fun i x y hx hy => ?_) (fun i x y hx hy => ?_)
      · have hi : i < a'.size := by have := (Array.getElem?_eq_some_iff.1 hx).1; omega
        exact iha i x _ hx (Array.getElem?_eq_getElem hi) (ra' i _ y (Array.getElem?_eq_getElem hi) hy)
      · have hi : i < c'.size := by have := (Array.getElem?_eq_some_iff.1 hx).1; omega
        exact ihc i x _ hx (Array.getElem?_eq_getElem hi) (rc' i _ y (Array.getElem?_eq_getElem hi) hy)
  | nilF => intro cv k; cases k; exact .nilF
  | nilI => intro cv k; cases k; exact .nilI
  | ifc t v v' _ ih => intro cv k; cases k with | ifc _ _ w h' => exact .ifc _ _ _ (ih h')
  | agg c c' hc rc ihc =>
    intro cv k
    cases k with
    | agg _ c'' hc' rc' =>
      refine .agg _ _ (by omega) (fun i x y hx hy => ?_)
      have hi : i < c'.size := by have := (Array.getElem?_eq_some_iff.1 hx).1; omega
      exact ihc i x _ hx (Array.getElem?_eq_getElem hi) (rc' i _ y (Array.getElem?_eq_getElem hi) hy)
  | tup c c' hc rc ihc =>
    intro cv k
    cases k with
    | tup _ c'' hc' rc' =>
      refine .tup _ _ (by omega) (fun i x y hx hy => ?_)
      have hi : i < c'.size := by have := (Array.getElem?_eq_some_iff.1 hx).1; omega
      exact ihc i x _ hx (Array.getElem?_eq_getElem hi) (rc' i _ y (Array.getElem?_eq_getElem hi) hy)

/-- The small heap's blocks, turned, and those that stand at the places 'σ' of the large one. -/
def hatF (τ : List Nat) : List Nat → List Blk → List Blk → (List Blk → List Blk → Prop) → Prop
  | [], [], _, k => k [] []
  | j :: σ, b0 :: H0, H, k => getF H j fun b => renB τ b0 fun b' => hatF τ σ H0 H fun l l' => k (b' :: l) (b :: l')
  | _, _, _, _ => False
/-- The small heap lies in the large one, at the places 'σ'. -/
def HAt (τ : List Nat) (σ : List Nat) (H0 H : List Blk) : Prop := hatF τ σ H0 H fun l l' => l = l'

/-- The names: the old ones, then new ones. -/
def tauF : List Nat → List Blk → List Nat → (List Nat → Prop) → Prop
  | s :: σ, _ :: H, ns, k => tauF σ H ns fun τ => k (s :: τ)
  | [], [], _, k => k []
  | [], _ :: H, n :: ns, k => tauF [] H ns fun τ => k (n :: τ)
  | _, _, _, _ => False
/-- The small heap, laid back. -/
def updF (τ : List Nat) : List Nat → List Blk → List Blk → (List Blk → Prop) → Prop
  | s :: σ, b :: H0, H, k => renB τ b fun b' => setF H s b' fun H' => updF τ σ H0 H' k
  | [], b :: H0, H, k => renB τ b fun b' => snocF H b' fun H' => updF τ [] H0 H' k
  | [], [], H, k => k H
  | _ :: _, [], _, _ => False
def Back (σ : List Nat) (H H0' : List Blk) (v0 : Value) (k : Value → List Blk → Prop) : Prop :=
  dropF nums H.length fun ns => tauF σ H0' ns fun τ => updF τ σ H0' H fun H' => renV 6 τ v0 fun v => k v H'

inductive BlkR (τ : List Nat) : Blk → Blk → Prop
  | cells (c c' : List Value) (e : TypeId) (h : VRs τ c c') : BlkR τ (.cells c e) (.cells c' e)
  | gone : BlkR τ .gone .gone
  | ro (f : Nat → Option Value) (h : FlatRo f) : BlkR τ (.ro f) (.ro f)

theorem renB_iff {τ : List Nat} {b : Blk} {k : Blk → Prop} (h : renB τ b k) : ∃ b', k b' ∧ BlkR τ b b' := by
  cases b with
  | cells c e =>
    obtain ⟨c', h, hc⟩ := renL_iff (renV_iff 6) h
    exact ⟨_, h, .cells _ _ _ hc⟩
  | gone => exact ⟨_, h, .gone⟩
  | ro f => exact ⟨_, h.2, .ro f h.1⟩

theorem hatF_iff {τ : List Nat} : ∀ {σ : List Nat} {H0 H : List Blk} {k : List Blk → List Blk → Prop}, hatF τ σ H0 H k → σ.length = H0.length ∧ ∃ l l' : List Blk, k l l' ∧ l.length = H0.length ∧
    ∀ (i : Nat) (b0 : Blk), H0[i]? = some b0 → ∃ (j : Nat) (b b' : Blk), σ[i]? = some j ∧ H[j]? = some b ∧ l[i]? = some b' ∧ l'[i]? = some b ∧ BlkR τ b0 b'
  | [], [], _, _, h => ⟨rfl, [], [], h, rfl, by simp⟩
  | j :: σ, b0 :: H0, H, k, h => by
    obtain ⟨b, hb, h⟩ := getF_iff h
    obtain ⟨b', h, hr⟩ := renB_iff h
    obtain ⟨hl, l, l', hk, hll, h3⟩ := hatF_iff h
    refine ⟨by simp [hl], b' :: l, b :: l', hk, by simp [hll], fun i x hx => ?_⟩
    cases i with
    | zero => simp at hx; subst hx; exact ⟨j, b, b', rfl, hb, rfl, rfl, hr⟩
    | succ i => simpa using h3 i x (by simpa using hx)
  | [], _ :: _, _, _, h => False.elim h
  | _ :: _, [], _, _, h => False.elim h
theorem hat_iff {τ : List Nat} {σ : List Nat} {H0 H : List Blk} (h : HAt τ σ H0 H) : σ.length = H0.length ∧ ∀ (i : Nat) (b0 : Blk), H0[i]? = some b0 → ∃ (j : Nat) (b : Blk), σ[i]? = some j ∧ H[j]? = some b ∧ BlkR τ b0 b := by
  obtain ⟨hl, l, l', rfl, _, h⟩ := hatF_iff h
  refine ⟨hl, fun i b0 hi => ?_⟩
  obtain ⟨j, b, b', h1, h2, h3, h4, h5⟩ := h i b0 hi
  rw [h3] at h4; cases h4
  exact ⟨j, _, h1, h2, h5⟩

theorem snocF_iff {α : Type} {l : List α} {v : α} {k : List α → Prop} (h : snocF l v k) : k (l ++ [v]) := by
  induction l generalizing k with
  | nil => exact h
  | cons a l ih => exact ih (k := fun l' => k (a :: l')) h

theorem tau_iff : ∀ {σ : List Nat} {H : List Blk} {ns : List Nat} {k : List Nat → Prop}, tauF σ H ns k → σ.length ≤ H.length ∧ H.length - σ.length ≤ ns.length ∧ k (σ ++ ns.take (H.length - σ.length))
  | s :: σ, _ :: H, ns, k, h => by
    obtain ⟨h1, h2, h3⟩ := tau_iff (σ := σ) h
    exact ⟨by simp; exact h1, by simp; omega, by simpa using h3⟩
  | [], [], ns, k, h => by
    have h : k [] := by cases ns <;> exact h
    exact ⟨Nat.le_refl _, Nat.zero_le _, by simpa using h⟩
  | [], _ :: H, n :: ns, k, h => by
    obtain ⟨h1, h2, h3⟩ := tau_iff (σ := []) (H := H) h
    exact ⟨Nat.zero_le _, by simp at h2 ⊢; omega, by simpa using h3⟩
  | _ :: _, [], _, _, h => False.elim h
  | [], _ :: _, [], _, h => False.elim h

structure Laid (τ σ : List Nat) (H0 H H' : List Blk) : Prop where
  len : H'.length = H.length + (H0.length - σ.length)
  le : σ.length ≤ H0.length
  other : ∀ j : Nat, j < H.length → j ∉ σ → H'[j]? = H[j]?
  old : ∀ i s : Nat, σ[i]? = some s → ∃ b b' : Blk, H0[i]? = some b ∧ H'[s]? = some b' ∧ BlkR τ b b'
  new : ∀ i : Nat, σ.length ≤ i → i < H0.length → ∃ b b' : Blk, H0[i]? = some b ∧ H'[H.length + (i - σ.length)]? = some b' ∧ BlkR τ b b'

/-- What the laying back comes to: the old places hold the small heap's blocks, the others stay, the new ones stand behind. -/
theorem upd_iff {τ : List Nat} : ∀ {σ : List Nat} {H0 H : List Blk} {k : List Blk → Prop}, updF τ σ H0 H k → σ.Nodup → (∀ s ∈ σ, s < H.length) → ∃ H', k H' ∧ Laid τ σ H0 H H'
  | s :: σ, b :: H0, H, k, h, hn, hlt => by
    have hs : s < H.length := hlt s (List.mem_cons_self ..)
    rw [List.nodup_cons] at hn
    unfold updF at h
    obtain ⟨b', h, hb⟩ := renB_iff h
    have h := setF_iff h
    obtain ⟨H', hk, ⟨h1, h2, h3, h4, h5⟩⟩ := upd_iff h hn.2 (fun t ht => by simpa using hlt t (List.mem_cons_of_mem _ ht))
    simp only [List.length_set] at h1 h3 h5
    refine ⟨H', hk, ⟨by simpa using h1, by simpa using h2, fun j hj hns => ?_, fun i t hi => ?_, fun i hi hl => ?_⟩⟩
    · simp only [List.mem_cons, not_or] at hns
      rw [h3 j hj hns.2, List.getElem?_set_ne (Ne.symm hns.1)]
    · cases i with
      | zero =>
        simp at hi; subst hi
        refine ⟨b, b', rfl, ?_, hb⟩
        rw [h3 s hs hn.1]
        simp [hs]
      | succ i => simpa using h4 i t (by simpa using hi)
    · cases i with
      | zero => simp at hi
      | succ i =>
        have := h5 i (by simpa using hi) (by simpa using hl)
        simpa [Nat.add_sub_add_right] using this
  | [], b :: H0, H, k, h, hn, hlt => by
    unfold updF at h
    obtain ⟨b', h, hb⟩ := renB_iff h
    have h := snocF_iff h
    obtain ⟨H', hk, ⟨h1, h2, h3, h4, h5⟩⟩ := upd_iff h hn (by simp)
    simp only [List.length_append, List.length_cons, List.length_nil, Nat.sub_zero] at h1 h3 h5
    refine ⟨H', hk, ⟨by simp; omega, by simp, fun j hj _ => ?_, by simp, fun i hi hl => ?_⟩⟩
    · rw [h3 j (by omega) (by simp), List.getElem?_append_left hj]
    · cases i with
      | zero =>
        refine ⟨b, b', rfl, ?_, hb⟩
        rw [Nat.zero_sub, Nat.add_zero, h3 H.length (by omega) (by simp)]
        simp
      | succ i =>
        obtain ⟨x, x', e1, e2, e3⟩ := h5 i (by simp) (by simpa using hl)
        refine ⟨x, x', by simpa using e1, ?_, e3⟩
        rw [show H.length + (i + 1 - [].length) = H.length + (0 + 1) + i by simp; omega]
        exact e2
  | [], [], H, k, h, _, _ => ⟨H, h, ⟨by simp, Nat.le_refl _, fun _ _ _ => rfl, by simp, fun i _ hl => by simp at hl⟩⟩
  | _ :: _, [], _, _, h, _, _ => False.elim h

theorem nodup_of {l : List Nat} (h : ∀ i j b : Nat, l[i]? = some b → l[j]? = some b → i = j) : l.Nodup := by
  unfold List.Nodup
  rw [List.pairwise_iff_getElem]
  intro i j hi hj hij he
  have := h i j l[i] (List.getElem?_eq_getElem hi) (by rw [he]; exact List.getElem?_eq_getElem hj)
  omega

/-- **A contract over a small heap, used in a larger one.** -/
theorem ACalls.use {f : FuncId} {args0 : List Value} {H0 : List Blk} {R0 : Value → List Blk → Prop} (h : ACalls P f args0 H0 R0) (σ : List Nat) {args : List Value} {H : List Blk} {k : Value → List Blk → Prop}
    (hn : σ.Nodup) (hat : HAt σ σ H0 H) (hargs : renL (renV 6 σ) args0 fun l => l = args) (hk : ∀ v0 H0', R0 v0 H0' → Back σ H H0' v0 k) : ACalls P f args H k := by
  obtain ⟨hlen, hat⟩ := hat_iff hat
  replace hargs := renL_iff (renV_iff 6) hargs
  obtain ⟨args', rfl, hargs⟩ := hargs
  refine ⟨fun μ w cargs hv hr => ?_⟩
  have hσlt : ∀ {i s : Nat}, σ[i]? = some s → s < H.length := fun {i s} hi => by
    have hi0 : i < H0.length := by rw [← hlen]; exact (List.getElem?_eq_some_iff.1 hi).1
    obtain ⟨j, b, h1, h2, _⟩ := hat i _ (List.getElem?_eq_getElem hi0)
    rw [hi] at h1; cases h1
    exact (List.getElem?_eq_some_iff.1 h2).1
  let μ0 := σ.map fun s => μ.getD s 0
  have hμ0 : ∀ {i s : Nat}, σ[i]? = some s → μ0[i]? = μ[s]? := fun {i s} hi => by
    have hs : s < μ.length := by rw [← hr.len]; exact hσlt hi
    simp [μ0, hi, hs]
  have hμ0' : ∀ {i b : Nat}, μ0[i]? = some b → ∃ s, σ[i]? = some s ∧ μ[s]? = some b := fun {i b} hi => by
    have hlt : i < σ.length := by have := (List.getElem?_eq_some_iff.1 hi).1; simpa [μ0] using this
    refine ⟨σ[i], List.getElem?_eq_getElem hlt, ?_⟩
    rw [← hμ0 (List.getElem?_eq_getElem hlt)]; exact hi
  have hfore : ∀ i j b : Nat, σ[i]? = some j → μ[j]? = some b → μ0[i]? = some b := fun i j b h1 h2 => by rw [hμ0 h1]; exact h2
  have hrel0 : Rel μ0 H0 w := by
    refine ⟨by simp [μ0, hlen], ?_, fun b hb => ?_, fun i b c e hH hμ => ?_, fun i b f hH hμ => ?_⟩
    · refine nodup_of fun i j b hi hj => ?_
      obtain ⟨s, hs, hsb⟩ := hμ0' hi
      obtain ⟨t, ht, htb⟩ := hμ0' hj
      have := nodup_inj hr.nd hsb htb
      subst this
      exact nodup_inj hn hs ht
    · obtain ⟨i, hi⟩ := List.mem_iff_getElem?.1 hb
      obtain ⟨s, _, hs⟩ := hμ0' hi
      exact hr.lt b (List.mem_of_getElem? hs)
    · obtain ⟨s, hs, hsb⟩ := hμ0' hμ
      obtain ⟨j, b', h1, h2, h3⟩ := hat i _ hH
      rw [hs] at h1; cases h1
      cases h3 with
      | cells _ c1 _ hc =>
        obtain ⟨c2, hw, hc2⟩ := hr.blk s b c1 e h2 hsb
        refine ⟨c2, hw, by rw [hc.1]; exact hc2.1, fun m x y hx hy => ?_⟩
        obtain ⟨z, hz, hxz⟩ := hc.get hx
        exact hxz.fore hfore (hc2.2 m z y hz hy)
    · obtain ⟨s, hs, hsb⟩ := hμ0' hμ
      obtain ⟨j, b', h1, h2, h3⟩ := hat i _ hH
      rw [hs] at h1; cases h1
      cases h3 with
      | ro _ hf =>
        intro o v ho
        obtain ⟨v', hw, hc⟩ := hr.rob s b f h2 hsb o v ho
        rw [hf.eq ho hc] at hw
        exact ⟨v, hw, hf.vr ho _⟩
  have hv0 : VRs μ0 args0 cargs := ⟨hargs.1.trans hv.1, fun m x y hx hy => by
    obtain ⟨z, hz, hxz⟩ := hargs.get hx
    exact hxz.fore hfore (hv.2 m z y hz hy)⟩
  obtain ⟨h1, h2⟩ := h.out μ0 w cargs hv0 hrel0
  refine ⟨h1, h2.mono fun e w' hh => ?_⟩
  obtain ⟨v0, cv, μ1, H0', he, hvr, hr1, hx1, hR⟩ := hh
  have hb := hk v0 H0' hR
  obtain ⟨hns, hb⟩ := dropF_iff hb
  obtain ⟨hle, hns2, hb⟩ := tau_iff hb
  obtain ⟨H', hb, hlaid⟩ := upd_iff hb hn fun s hs => by
    obtain ⟨i, hi⟩ := List.mem_iff_getElem?.1 hs
    exact hσlt hi
  obtain ⟨v, hb, hvv⟩ := renV_iff 6 _ _ hb
  obtain ⟨ext, rfl, hext⟩ := hx1.pre
  have hl1 : H0'.length = σ.length + ext.length := by rw [hr1.len]; simp [μ0]
  have hel : H0'.length - σ.length = ext.length := by omega
  rw [hel] at hvv hlaid
  -- the names
  have hnum : ∀ i : Nat, i < ext.length → ((nums.drop H.length).take ext.length)[i]? = some (H.length + i) := fun i hi => by
    rw [List.getElem?_take, if_pos hi, List.getElem?_drop, nums_eq, List.getElem?_range]
    simp [nums_eq] at hns2
    omega
  have htau : ∀ i j b : Nat, (σ ++ (nums.drop H.length).take ext.length)[i]? = some j → (μ0 ++ ext)[i]? = some b → (μ ++ ext)[j]? = some b := fun i j b hi hb => by
    by_cases hlt : i < σ.length
    · rw [List.getElem?_append_left hlt] at hi
      rw [List.getElem?_append_left (by simpa [μ0] using hlt), hμ0 hi] at hb
      rw [List.getElem?_append_left (List.getElem?_eq_some_iff.1 hb).1]; exact hb
    · rw [List.getElem?_append_right (by omega)] at hi
      rw [List.getElem?_append_right (by simp [μ0]; omega)] at hb
      have hm : i - σ.length < ext.length := by have := (List.getElem?_eq_some_iff.1 hb).1; simpa [μ0] using this
      rw [hnum _ hm] at hi
      cases hi
      rw [List.getElem?_append_right (by rw [hr.len]; omega)]
      rw [hr.len, show μ.length + (i - σ.length) - μ.length = i - μ0.length by simp [μ0]]
      exact hb
  have hmulen : (μ ++ ext).length = H'.length := by rw [hlaid.len, hel, List.length_append, ← hr.len]
  have hnew : ∀ b ∈ ext, b ∉ μ := fun b hb hm => by have := hext b hb; have := hr.lt b hm; omega
  have hnd1 : (μ0 ++ ext).Nodup := hr1.nd
  have hnde : ext.Nodup := (List.nodup_append.1 hnd1).2.1
  -- which block of the small heap a block of the large one is
  have hclass : ∀ (j b : Nat), (μ ++ ext)[j]? = some b → (j < H.length ∧ j ∉ σ ∧ μ[j]? = some b) ∨ ∃ i b0 b', (μ0 ++ ext)[i]? = some b ∧ H0'[i]? = some b0 ∧ H'[j]? = some b' ∧ BlkR (σ ++ (nums.drop H.length).take ext.length) b0 b' ∧ (∀ c e, j < H.length → b' = .cells c e → ∃ c0 e0, H[j]? = some (.cells c0 e0)) := fun j b hj => by
    by_cases hlt : j < H.length
    · have hjm := hj
      rw [List.getElem?_append_left (by rw [← hr.len]; exact hlt)] at hjm
      by_cases hσ : j ∈ σ
      · obtain ⟨i, hi⟩ := List.mem_iff_getElem?.1 hσ
        have hil : i < σ.length := (List.getElem?_eq_some_iff.1 hi).1
        obtain ⟨b0, b', e1, e2, e3⟩ := hlaid.old i j hi
        refine .inr ⟨i, b0, b', ?_, e1, e2, e3, fun c e _ hbc => ?_⟩
        · rw [List.getElem?_append_left (by simpa [μ0] using hil), hμ0 hi]; exact hjm
        · subst hbc
          cases e3 with
          | cells c0 _ _ _ =>
            obtain ⟨c1, e1', h3⟩ := hx1.own i c0 e (by rw [← hlen]; exact hil) e1
            obtain ⟨j', b1, f1, f2, f3⟩ := hat i _ h3
            rw [hi] at f1; cases f1
            cases f3 with
            | cells _ c2 _ _ => exact ⟨c2, e1', f2⟩
      · exact .inl ⟨hlt, hσ, hjm⟩
    · rw [List.getElem?_append_right (by rw [← hr.len]; omega)] at hj
      have hm : j - μ.length < ext.length := (List.getElem?_eq_some_iff.1 hj).1
      have hi1 : σ.length ≤ σ.length + (j - μ.length) := by omega
      obtain ⟨b0, b', e1, e2, e3⟩ := hlaid.new (σ.length + (j - μ.length)) hi1 (by omega)
      refine .inr ⟨σ.length + (j - μ.length), b0, b', ?_, e1, ?_, e3, fun c e h => absurd h hlt⟩
      · rw [List.getElem?_append_right (by simp [μ0]), show σ.length + (j - μ.length) - μ0.length = j - μ.length by simp [μ0]]; exact hj
      · rw [show H.length + (σ.length + (j - μ.length) - σ.length) = j by rw [hr.len]; have := hr.len; omega] at e2; exact e2
  refine ⟨v, cv, μ ++ ext, H', he, hvv.back htau hvr, ⟨hmulen.symm, ?_, ?_, ?_, ?_⟩, ⟨⟨ext, rfl, hext⟩, hx1.size, hx1.os, hx1.tape, hx1.output, ?_, ?_⟩, hb⟩
  · rw [List.nodup_append]
    exact ⟨hr.nd, hnde, fun a ha b hb hab => hnew b hb (hab ▸ ha)⟩
  · intro b hb
    rcases List.mem_append.1 hb with hb | hb
    · exact Nat.lt_of_lt_of_le (hr.lt b hb) hx1.size
    · exact hr1.lt b (List.mem_append_right _ hb)
  · intro j b c e hH hj
    rcases hclass j b hj with ⟨hlt, hσ, hjm⟩ | ⟨i, b0, b', f1, f2, f3, f4, _⟩
    · rw [hlaid.other j hlt hσ] at hH
      obtain ⟨c', hw, hc⟩ := hr.blk j b c e hH hjm
      refine ⟨c', ?_, hc.mono fun i b hi => by rw [List.getElem?_append_left (List.getElem?_eq_some_iff.1 hi).1]; exact hi⟩
      rw [hx1.same b (hr.lt b (List.mem_of_getElem? hjm)) ?_]
      · exact hw
      · rintro ⟨i, c1, e1, h1, _⟩
        obtain ⟨s, hs, hsb⟩ := hμ0' h1
        have := nodup_inj hr.nd hjm hsb
        subst this
        exact hσ (List.mem_of_getElem? hs)
    · rw [hH] at f3; cases f3
      cases f4 with
      | cells c0 _ _ hc0 =>
        obtain ⟨c', hw, hc⟩ := hr1.blk i b c0 e f2 f1
        refine ⟨c', hw, by rw [← hc0.1]; exact hc.1, fun m x y hx hy => ?_⟩
        have hm : m < c0.length := by rw [hc0.1]; exact (List.getElem?_eq_some_iff.1 hx).1
        exact (hc0.2 m _ x (List.getElem?_eq_getElem hm) hx).back htau (hc.2 m _ y (List.getElem?_eq_getElem hm) hy)
  · intro j b f hH hj o u hf
    rcases hclass j b hj with ⟨hlt, hσ, hjm⟩ | ⟨i, b0, b', f1, f2, f3, f4, _⟩
    · rw [hlaid.other j hlt hσ] at hH
      obtain ⟨v', hw, hc⟩ := hr.rob j b f hH hjm o u hf
      refine ⟨v', ?_, hc.mono fun i b hi => by rw [List.getElem?_append_left (List.getElem?_eq_some_iff.1 hi).1]; exact hi⟩
      rw [cell?_of_heap_eq (hx1.same b (hr.lt b (List.mem_of_getElem? hjm)) ?_)]
      · exact hw
      · rintro ⟨i, c1, e1, h1, _⟩
        obtain ⟨s, hs, hsb⟩ := hμ0' h1
        have := nodup_inj hr.nd hjm hsb
        subst this
        exact hσ (List.mem_of_getElem? hs)
    · rw [hH] at f3; cases f3
      cases f4 with
      | ro _ hfl =>
        obtain ⟨v', hw, hc⟩ := hr1.rob i b f f2 f1 o u hf
        rw [hfl.eq hf hc] at hw
        exact ⟨u, hw, hfl.vr hf _⟩
  · intro b hb hn'
    refine hx1.same b hb ?_
    rintro ⟨i, c, e, h1, h3⟩
    obtain ⟨s, hs, hsb⟩ := hμ0' h1
    obtain ⟨j, b', f1, f2, f3⟩ := hat i _ h3
    rw [hs] at f1; cases f1
    cases f3 with
    | cells _ c1 _ _ => exact hn' ⟨s, c1, e, hsb, f2⟩
  · intro j c e hj hc
    have hjm : j < (μ ++ ext).length := by rw [List.length_append, ← hr.len]; omega
    rcases hclass j _ (List.getElem?_eq_getElem hjm) with ⟨hlt, hσ, _⟩ | ⟨i, b0, b', _, _, f3, _, f5⟩
    · rw [hlaid.other j hlt hσ] at hc; exact ⟨c, e, hc⟩
    · rw [hc] at f3; cases f3
      exact f5 c e hj rfl

def nodup : List Nat → Bool
  | [] => true
  | a :: l => l.all (fun b => !(Nat.beq a b)) && nodup l
theorem nodup_spec : ∀ {l : List Nat}, nodup l = true → l.Nodup
  | [], _ => List.nodup_nil
  | a :: l, h => by
    simp only [nodup, Bool.and_eq_true] at h
    refine List.nodup_cons.2 ⟨fun hm => ?_, nodup_spec h.2⟩
    have := (List.all_eq_true.1 h.1) a hm
    simp at this

abbrev Gives (P : Program) (f : FuncId) (args : List Value) (H : List Blk) (v : Value) (H' : List Blk) : Prop := ACalls P f args H fun r h => r = v ∧ h = H'

theorem ACalls.useE {P : Program} {f : FuncId} {args0 : List Value} {H0 : List Blk} {v0 : Value} {H1 : List Blk} (h : ACalls P f args0 H0 fun r h => r = v0 ∧ h = H1) (σ : List Nat) {args : List Value} {H : List Blk} {k : Value → List Blk → Prop}
    (hn : nodup σ = true) (hat : HAt σ σ H0 H) (hargs : renL (renV 6 σ) args0 fun l => l = args) (hk : Back σ H H1 v0 k) : ACalls P f args H k :=
  h.use σ (nodup_spec hn) hat hargs fun _ _ hh => by obtain ⟨rfl, rfl⟩ := hh; exact hk

end
end Go.Aw
