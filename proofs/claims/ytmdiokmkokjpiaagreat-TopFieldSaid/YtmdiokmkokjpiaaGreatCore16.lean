/-
  What is kept at the end of a function that hands back new blocks.
-/
import Derived.Test.YtmdiokmkokjpiaaGreatCore15
set_option linter.all false
set_option linter.unusedVariables false
set_option linter.unusedSimpArgs false
set_option linter.unnecessarySimpa false
namespace Go.Aw
section
variable {P : Program} {T : Tab}

def idxF : List Nat → Nat → Nat → Option Nat
  | [], _, _ => none
  | a :: l, i, n => match Nat.beq a i with | true => some n | false => idxF l i (n + 1)
/-- The new name of each of 'm' old ones: its place in 'ord'; what is not there gets a name that is none. -/
def tauOf (ord : List Nat) (m : Nat) : List Nat := (List.range m).map fun i => match idxF ord i 0 with | some j => j | none => ord.length + i
def nodupB : List Nat → Bool
  | [] => true
  | a :: l => l.all (fun b => !(Nat.beq a b)) && nodupB l
def prefB : Nat → Nat → List Nat → Bool
  | 0, _, _ => true
  | _ + 1, _, [] => false
  | n + 1, i, a :: l => Nat.beq a i && prefB n (i + 1) l
def pickF (τ : List Nat) (H : List Blk) : List Nat → (List Blk → Prop) → Prop
  | [], k => k []
  | i :: ord, k => getF H i fun b => renB τ b fun b' => pickF τ H ord fun H' => k (b' :: H')
/-- The blocks: the old ones name no dropped ones (and are no read-only ones). -/
def boundF (n : Nat) : List Blk → (Unit → Prop) → Prop
  | [], k => k ()
  | b :: H, k => match b with
    | .cells c _ => Req (c.all (bdv 6 n)) fun _ => boundF n H k
    | .gone => boundF n H k
    | .ro _ => False

/-- Of the blocks at the end those of 'ord' are kept, in that order; the first of them are those that stood at the beginning. -/
def Keep (ord : List Nat) (H : List Blk) (R : Value → List Blk → Prop) : Value → List Blk → Prop := fun v H' =>
  Req (prefB H.length 0 ord && nodupB ord && ord.all (fun i => Nat.blt i H'.length)) fun _ =>
    renV 6 (tauOf ord H'.length) v fun v2 => Req (bdv 6 ord.length v2) fun _ =>
      pickF (tauOf ord H'.length) H' ord fun H2 => boundF ord.length H2 fun _ => R v2 H2

theorem VR.back_cut {τ μ ν : List Nat} {n : Nat} (hτ : ∀ i j b : Nat, j < n → τ[i]? = some j → μ[i]? = some b → ν[j]? = some b) : ∀ (d : Nat) {v v' cv : Value}, bdv d n v' = true → VR τ v v' → VR μ v cv → VR ν v' cv
  | 0, _, _, _, h, _, _ => by simp [bdv] at h
  | d + 1, v, v', cv, h, hr, hk => by
    have all : ∀ (c c' c'' : Array Value), c'.toList.all (bdv d n) = true → c.size = c'.size → (∀ (i : Nat) (x y : Value), c[i]? = some x → c'[i]? = some y → VR τ x y) → (∀ (i : Nat) (x y : Value), c[i]? = some x → c''[i]? = some y → VR μ x y) →
        ∀ (i : Nat) (x y : Value), c'[i]? = some x → c''[i]? = some y → VR ν x y := fun c c' c'' hc hs h1 h2 i x y hx hy => by
      have hi : i < c.size := by have := (Array.getElem?_eq_some_iff.1 hx).1; omega
      exact VR.back_cut hτ d ((List.all_eq_true.1 hc) x (Array.mem_toList_iff.2 (Array.mem_of_getElem? hx))) (h1 i _ x (Array.getElem?_eq_getElem hi) hx) (h2 i _ y (Array.getElem?_eq_getElem hi) hy)
    cases hr with
    | bool b => cases hk; exact .bool b
    | int q m => cases hk; exact .int q m
    | str s => cases hk; exact .str s
    | ptrN => cases hk; exact .ptrN
    | ptr i j o hi => cases hk with | ptr _ b _ hb => exact .ptr _ _ _ (hτ i j b (blt_lt (by simpa [bdv] using h)) hi hb)
    | slN l c => cases hk; exact .slN l c
    | sl i j o l c hi => cases hk with | sl _ b _ _ _ hb => exact .sl _ _ _ _ _ (hτ i j b (blt_lt (by simpa [bdv] using h)) hi hb)
    | fn f a a' c c' ha hc ra rc =>
      simp only [bdv, Bool.and_eq_true] at h
      cases hk with
      | fn _ _ a'' _ c'' ha' hc' ra' rc' => exact .fn _ _ _ _ _ (by omega) (by omega) (all a a' a'' h.1 ha ra ra') (all c c' c'' h.2 hc rc rc')
    | nilF => cases hk; exact .nilF
    | nilI => cases hk; exact .nilI
    | ifc t v v' hv => cases hk with | ifc _ _ w h' => exact .ifc _ _ _ (VR.back_cut hτ d (by simpa [bdv] using h) hv h')
    | agg c c' hc rc => cases hk with | agg _ c'' hc' rc' => exact .agg _ _ (by omega) (all c c' c'' (by simpa [bdv] using h) hc rc rc')
    | tup c c' hc rc => cases hk with | tup _ c'' hc' rc' => exact .tup _ _ (by omega) (all c c' c'' (by simpa [bdv] using h) hc rc rc')

theorem idx_iff : ∀ {l : List Nat} {i n j : Nat}, idxF l i n = some j → ∃ k, j = n + k ∧ l[k]? = some i
  | [], _, _, _, h => by simp [idxF] at h
  | a :: l, i, n, j, h => by
    unfold idxF at h
    cases hb : Nat.beq a i with
    | true => simp only [hb, Option.some.injEq] at h; exact ⟨0, by omega, by simp [Nat.eq_of_beq_eq_true hb]⟩
    | false =>
      simp only [hb] at h
      obtain ⟨k, hk, hl⟩ := idx_iff h
      exact ⟨k + 1, by omega, by simpa using hl⟩

theorem nodupB_iff : ∀ {l : List Nat}, nodupB l = true → l.Nodup
  | [], _ => List.nodup_nil
  | a :: l, h => by
    simp only [nodupB, Bool.and_eq_true] at h
    refine List.nodup_cons.2 ⟨fun hm => ?_, nodupB_iff h.2⟩
    have := (List.all_eq_true.1 h.1) a hm
    simp at this

theorem prefB_iff : ∀ {n i : Nat} {l : List Nat}, prefB n i l = true → ∀ k, k < n → l[k]? = some (i + k)
  | 0, _, _, _, k, hk => by omega
  | n + 1, i, [], h, _, _ => by simp [prefB] at h
  | n + 1, i, a :: l, h, k, hk => by
    simp only [prefB, Bool.and_eq_true] at h
    cases k with
    | zero => simp [Nat.eq_of_beq_eq_true h.1]
    | succ k => have := prefB_iff h.2 k (by omega); simpa [Nat.add_assoc, Nat.add_comm 1] using this

theorem pick_iff {τ : List Nat} {H : List Blk} : ∀ {ord : List Nat} {k : List Blk → Prop}, pickF τ H ord k → ∃ H', k H' ∧ H'.length = ord.length ∧ ∀ j i : Nat, ord[j]? = some i → ∃ b b', H[i]? = some b ∧ H'[j]? = some b' ∧ BlkR τ b b'
  | [], k, h => ⟨[], h, rfl, by simp⟩
  | i :: ord, k, h => by
    unfold pickF at h
    obtain ⟨b, hb, h⟩ := getF_iff h
    obtain ⟨b', h, hbr⟩ := renB_iff h
    obtain ⟨H', hk, hl, hr⟩ := pick_iff h
    refine ⟨b' :: H', hk, by simp [hl], fun j i' hj => ?_⟩
    cases j with
    | zero => simp at hj; subst hj; exact ⟨b, b', hb, rfl, hbr⟩
    | succ j => simpa using hr j i' (by simpa using hj)

theorem bound_iff {n : Nat} : ∀ {H : List Blk} {k : Unit → Prop}, boundF n H k → k () ∧ ∀ (i : Nat) (b : Blk), H[i]? = some b → (∃ c e, b = .cells c e ∧ c.all (bdv 6 n) = true) ∨ b = .gone
  | [], k, h => ⟨h, by simp⟩
  | b :: H, k, h => by
    cases b with
    | cells c e =>
      unfold boundF at h
      replace h := req_iff h
      obtain ⟨h1, h⟩ := h
      obtain ⟨hk, hr⟩ := bound_iff h
      refine ⟨hk, fun i x hx => ?_⟩
      cases i with
      | zero => simp at hx; subst hx; exact .inl ⟨c, e, rfl, h1⟩
      | succ i => exact hr i x (by simpa using hx)
    | gone =>
      obtain ⟨hk, hr⟩ := bound_iff (H := H) h
      refine ⟨hk, fun i x hx => ?_⟩
      cases i with
      | zero => simp at hx; subst hx; exact .inr rfl
      | succ i => exact hr i x (by simpa using hx)
    | ro f => exact False.elim h

theorem ACalls.keep {f : FuncId} {args : List Value} {H : List Blk} {R : Value → List Blk → Prop} (ord : List Nat) (h : ACalls P f args H (Keep ord H R)) : ACalls P f args H R :=
  ⟨fun μ w cargs hv hrel => by
    obtain ⟨h1, h2⟩ := h.out μ w cargs hv hrel
    refine ⟨h1, h2.mono fun e w' hh => ?_⟩
    obtain ⟨v, cv, μ', H', he, h3, h4, h5, h6⟩ := hh
    obtain ⟨ho, h6⟩ := req_iff h6
    simp only [Bool.and_eq_true] at ho
    obtain ⟨⟨hpre, hnd⟩, hlt⟩ := ho
    have hpre := prefB_iff hpre
    have hnd := nodupB_iff hnd
    have hlt : ∀ i ∈ ord, i < H'.length := fun i hi => blt_lt ((List.all_eq_true.1 hlt) i hi)
    obtain ⟨v2, h6, hv2⟩ := renV_iff 6 _ _ h6
    obtain ⟨hb, h6⟩ := req_iff h6
    obtain ⟨H2, h6, hl2, hpick⟩ := pick_iff h6
    obtain ⟨h6, hbound⟩ := bound_iff h6
    let ν := ord.map fun i => μ'.getD i 0
    have hν : ∀ {j i : Nat}, ord[j]? = some i → ν[j]? = μ'[i]? := fun {j i} hj => by
      have hi : i < μ'.length := by rw [← h4.len]; exact hlt i (List.mem_of_getElem? hj)
      simp [ν, hj, hi]
    have hν' : ∀ {j b : Nat}, ν[j]? = some b → ∃ i, ord[j]? = some i ∧ μ'[i]? = some b := fun {j b} hj => by
      have hjl : j < ord.length := by have := (List.getElem?_eq_some_iff.1 hj).1; simpa [ν] using this
      exact ⟨ord[j], List.getElem?_eq_getElem hjl, by rw [← hν (List.getElem?_eq_getElem hjl)]; exact hj⟩
    have hτ : ∀ i j b : Nat, j < ord.length → (tauOf ord H'.length)[i]? = some j → μ'[i]? = some b → ν[j]? = some b := fun i j b hj hi hb => by
      have hil : i < H'.length := by rw [h4.len]; exact (List.getElem?_eq_some_iff.1 hb).1
      unfold tauOf at hi
      rw [List.getElem?_map, List.getElem?_range hil] at hi
      simp only [Option.map_some, Option.some.injEq] at hi
      cases hx : idxF ord i 0 with
      | none => simp only [hx] at hi; omega
      | some m =>
        simp only [hx] at hi
        obtain ⟨k, hk, hl⟩ := idx_iff hx
        have : j = k := by omega
        subst this
        rw [hν hl]; exact hb
    obtain ⟨ext, rfl, hext⟩ := h5.pre
    have hol : H.length ≤ ord.length := by
      rcases Nat.lt_or_ge ord.length H.length with h | h
      · have := hpre ord.length h
        simp at this
      · exact h
    have hold : ∀ j : Nat, j < μ.length → ν[j]? = μ[j]? := fun j hj => by
      rw [hν (hpre j (by rw [hrel.len]; exact hj)), Nat.zero_add, List.getElem?_append_left hj]
    have hcells : ∀ (j b : Nat) (b' : Blk), H2[j]? = some b' → ν[j]? = some b → ∃ i b0, ord[j]? = some i ∧ (μ ++ ext)[i]? = some b ∧ H'[i]? = some b0 ∧ BlkR (tauOf ord H'.length) b0 b' := fun j b b' hb' hj => by
      obtain ⟨i, hi, hib⟩ := hν' hj
      obtain ⟨b0, b1, e1, e2, e3⟩ := hpick j i hi
      rw [hb'] at e2; cases e2
      exact ⟨i, b0, hi, hib, e1, e3⟩
    refine ⟨v2, cv, ν, H2, he, VR.back_cut hτ 6 hb hv2 h3, ⟨by simp [hl2, ν], ?_, ?_, ?_, ?_⟩, ⟨⟨ν.drop μ.length, ?_, ?_⟩, h5.size, h5.os, h5.tape, h5.output, h5.same, ?_⟩, h6⟩
    · refine nodup_of fun i j b hi hj => ?_
      obtain ⟨s, hs, hsb⟩ := hν' hi
      obtain ⟨t, ht, htb⟩ := hν' hj
      have := nodup_inj h4.nd hsb htb
      subst this
      exact nodup_inj hnd hs ht
    · intro b hb
      obtain ⟨j, hj⟩ := List.mem_iff_getElem?.1 hb
      obtain ⟨i, _, hi⟩ := hν' hj
      exact h4.lt b (List.mem_of_getElem? hi)
    · intro j b c e hc hj
      obtain ⟨i, b0, hi, hib, e1, e3⟩ := hcells j b _ hc hj
      cases e3 with
      | cells c0 _ _ hc0 =>
        obtain ⟨c', hw, hcr⟩ := h4.blk i b c0 e e1 hib
        refine ⟨c', hw, by rw [← hc0.1]; exact hcr.1, fun m x y hx hy => ?_⟩
        rcases hbound j _ hc with ⟨c2, e2, h7, h8⟩ | h7
        · cases h7
          have hm : m < c0.length := by rw [hc0.1]; exact (List.getElem?_eq_some_iff.1 hx).1
          exact VR.back_cut hτ 6 ((List.all_eq_true.1 h8) x (List.mem_of_getElem? hx)) (hc0.2 m _ x (List.getElem?_eq_getElem hm) hx) (hcr.2 m _ y (List.getElem?_eq_getElem hm) hy)
        · cases h7
    · intro j b f hc hj
      rcases hbound j _ hc with ⟨c2, e2, h7, h8⟩ | h7 <;> cases h7
    · apply List.ext_getElem?
      intro j
      by_cases hj : j < μ.length
      · rw [List.getElem?_append_left hj, hold j hj]
      · rw [List.getElem?_append_right (by omega), List.getElem?_drop]
        congr 1; omega
    · intro b hb
      obtain ⟨j, hj⟩ := List.mem_iff_getElem?.1 hb
      rw [List.getElem?_drop] at hj
      obtain ⟨i, hi, hib⟩ := hν' hj
      by_cases hil : i < μ.length
      · exfalso
        have := nodup_inj hnd hi (by rw [hpre i (by rw [hrel.len]; exact hil), Nat.zero_add])
        omega
      · rw [List.getElem?_append_right (by omega)] at hib
        exact hext b (List.mem_of_getElem? hib)
    · intro j c e hj hc
      have hjl : j < ν.length := by simp [ν]; omega
      obtain ⟨i, b0, hi, _, e1, e3⟩ := hcells j _ _ hc (List.getElem?_eq_getElem hjl)
      have : i = j := by
        have := hpre j hj
        rw [hi] at this; simpa using this
      subst this
      cases e3 with
      | cells c0 _ _ _ => exact h5.own i c0 e hj e1⟩

/-- **A contract of a function that hands back new blocks, by its code.** -/
theorem ACalls.codeN (hT : TabOk P T) (hs : Hints) {f : FuncId} {fn : Func} {args : List Value} {H : List Blk} {R : Value → List Blk → Prop} (hf : P.funcs[f]? = some fn) (hcall : ∀ (args : Array Value) (w : World), (callFunc f args).run P w = .ok (.enter f args) w)
    (hok : codeOk T hs (bodyOf fn) = true) (ord : List Nat) (h : startF args fn.ntmps fun ts => AWpR P T hs (bodyOf fn) (postF T fn.results.toList (Keep ord H R)) ts H) : ACalls P f args H R := by
  rw [AWpR_eq] at h
  cases hb : fn.body with
  | none => rw [bodyOf, hb] at hok; simp [codeOk] at hok
  | some c =>
    have hc : bodyOf fn = c := by rw [bodyOf, hb]
    rw [hc] at hok h
    exact (ACalls.intro hT hs hf hb hcall hok (start_iff h)).keep ord

end
end Go.Aw
