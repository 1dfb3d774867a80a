/-
  Walks through the functions of the program, by contract.
-/
import Derived.Test.YtmdiokmkokjpiaaDoorCoreD
set_option linter.all false
set_option linter.unusedVariables false
set_option linter.unusedSimpArgs false
set_option linter.unnecessarySimpa false
section
/-
  What is known less, with names turned: a slice that grows, a function that hands back a row of any length.
-/
set_option linter.unusedSectionVars false
namespace Go.Aw
variable [Base]
section
variable {P : Program} {T : Tab}

/-- A block as it is told behind, and as it stood ahead (its names behind are places of 'ord'). -/
inductive BW (ord : List Nat) : Blk → Blk → Prop
  | gone (b : Blk) : BW ord .gone b
  | cells (c2 c : List Value) (e : TypeId) (h : VRs ord c2 c) : BW ord (.cells c2 e) (.cells c e)
  | rc (f : Nat → Option Value) (c : List Value) (e : TypeId) (h : ∀ (o : Nat) (v : Value), f o = some v → ∃ v1, c[o]? = some v1 ∧ VR ord v v1) : BW ord (.ro f) (.cells c e)
  | rr (f g : Nat → Option Value) (h : ∀ (o : Nat) (v : Value), f o = some v → ∃ v1, g o = some v1 ∧ VR ord v v1) : BW ord (.ro f) (.ro g)

theorem BW.lit {ord : List Nat} {c2 c : List Value} {e : TypeId} (h : renL (renV 6 ord) c2 fun l => l = c) : BW ord (.cells c2 e) (.cells c e) := by
  obtain ⟨l, rfl, hv⟩ := renL_iff (renV_iff 6) h
  exact .cells _ _ _ hv
theorem BW.ro (ord : List Nat) {f : Nat → Option Value} (h : FlatRo f) : BW ord (.ro f) (.ro f) := .rr _ _ fun o v ho => ⟨v, ho, h.vr ho _⟩

def bwF (ord : List Nat) (H : List Blk) : List Nat → List Blk → Prop
  | [], [] => True
  | i :: os, b2 :: H2 => (∃ b, H[i]? = some b ∧ BW ord b2 b) ∧ bwF ord H os H2
  | _, _ => False
theorem bwF_iff {ord : List Nat} {H : List Blk} : ∀ {os : List Nat} {H2 : List Blk}, bwF ord H os H2 → os.length = H2.length ∧ ∀ (j : Nat) (b2 : Blk), H2[j]? = some b2 → ∃ i b, os[j]? = some i ∧ H[i]? = some b ∧ BW ord b2 b
  | [], [], _ => ⟨rfl, by simp⟩
  | i :: os, b2 :: H2, h => by
    obtain ⟨⟨b, h1, h2⟩, h3⟩ := h
    obtain ⟨hl, hr⟩ := bwF_iff h3
    refine ⟨by simp [hl], fun j x hx => ?_⟩
    cases j with
    | zero => simp at hx; subst hx; exact ⟨i, b, rfl, h1, h2⟩
    | succ j => simpa using hr j x (by simpa using hx)
  | [], _ :: _, h => False.elim h
  | _ :: _, [], h => False.elim h

/-- The frame behind, its names turned to those ahead; what is unknown stays so. -/
def renJL (ord : List Nat) : List Value → (List Value → Prop) → Prop
  | [], k => k []
  | v :: l, k => match v with
    | .chan none => renJL ord l fun l' => k (.chan none :: l')
    | v => renV 6 ord v fun v' => renJL ord l fun l' => k (v' :: l')
theorem renJL_iff {ord : List Nat} : ∀ {l : List Value} {k : List Value → Prop}, renJL ord l k → ∃ l', k l' ∧ l'.length = l.length ∧ ∀ (i : Nat) (x y : Value), l[i]? = some x → l'[i]? = some y → x = junk ∨ VR ord x y
  | [], k, h => ⟨[], h, rfl, by simp⟩
  | v :: l, k, h => by
    unfold renJL at h
    split at h
    · obtain ⟨l', hk, hl, hr⟩ := renJL_iff h
      refine ⟨_, hk, by simp [hl], fun i x y hx hy => ?_⟩
      cases i with
      | zero => simp at hx; exact .inl hx.symm
      | succ i => exact hr i x y (by simpa using hx) (by simpa using hy)
    · obtain ⟨v', h, hv⟩ := renV_iff 6 _ _ h
      obtain ⟨l', hk, hl, hr⟩ := renJL_iff h
      refine ⟨_, hk, by simp [hl], fun i x y hx hy => ?_⟩
      cases i with
      | zero => simp at hx hy; subst hx; subst hy; exact .inr hv
      | succ i => exact hr i x y (by simpa using hx) (by simpa using hy)

theorem mix_iff : ∀ {l m : List Value}, mix l m = m → l.length = m.length ∧ ∀ (i : Nat) (x y : Value), m[i]? = some x → l[i]? = some y → x = junk ∨ x = y
  | [], [], _ => ⟨rfl, by simp⟩
  | _ :: _, [], h => by simp [mix] at h
  | [], _ :: _, h => by simp [mix] at h
  | v :: l, w :: m, h => by
    have h' : (w = junk ∨ w = v) ∧ mix l m = m := by
      unfold mix at h
      split at h
      · rename_i heq heq2; cases heq; cases heq2; simp at h; exact ⟨.inl rfl, h⟩
      · rename_i heq heq2; cases heq; cases heq2; simp at h; exact ⟨.inr h.1.symm, h.2⟩
      · rename_i heq heq2; cases heq2
      · rename_i heq heq2; cases heq
    obtain ⟨h1, h2⟩ := h'
    obtain ⟨hl, hr⟩ := mix_iff h2
    refine ⟨by simp [hl], fun i x y hx hy => ?_⟩
    cases i with
    | zero => simp at hx hy; subst hx; subst hy; exact h1
    | succ i => exact hr i x y (by simpa using hx) (by simpa using hy)

theorem weak_of {H0 H : List Blk} {ts ts2 : List Value} {H2 : List Blk} (ord : List Nat) (hp : prefB H0.length 0 ord = true) (hn : nodupB ord = true)
    (hS : ts2.length = ts.length ∧ ∀ (i : Nat) (x y : Value), ts2[i]? = some x → ts[i]? = some y → x = junk ∨ VR ord x y) (hB : bwF ord H ord H2) : Weak H0 ts H ts2 H2 := by
  intro μ0 w0 μ w tmps hr0 hv hr hx
  have hpre := prefB_iff hp
  have hnd := nodupB_iff hn
  obtain ⟨hol, hB⟩ := bwF_iff hB
  have hlt : ∀ i ∈ ord, i < H.length := fun i hi => by
    obtain ⟨j, hj⟩ := List.mem_iff_getElem?.1 hi
    have hjl : j < H2.length := by rw [← hol]; exact (List.getElem?_eq_some_iff.1 hj).1
    obtain ⟨i', b, h1, h2, _⟩ := hB j _ (List.getElem?_eq_getElem hjl)
    rw [hj] at h1; cases h1
    exact (List.getElem?_eq_some_iff.1 h2).1
  let ν := ord.map fun i => μ.getD i 0
  have hν : ∀ {j i : Nat}, ord[j]? = some i → ν[j]? = μ[i]? := fun {j i} hj => by
    have hi : i < μ.length := by rw [← hr.len]; exact hlt i (List.mem_of_getElem? hj)
    simp [ν, hj, hi]
  have hν' : ∀ {j b : Nat}, ν[j]? = some b → ∃ i, ord[j]? = some i ∧ μ[i]? = some b := fun {j b} hj => by
    have hjl : j < ord.length := by have := (List.getElem?_eq_some_iff.1 hj).1; simpa [ν] using this
    exact ⟨ord[j], List.getElem?_eq_getElem hjl, by rw [← hν (List.getElem?_eq_getElem hjl)]; exact hj⟩
  have hfore : ∀ i j b : Nat, ord[i]? = some j → μ[j]? = some b → ν[i]? = some b := fun i j b h1 h2 => by rw [hν h1]; exact h2
  obtain ⟨ext, rfl, hext⟩ := hx.pre
  have hole : μ0.length ≤ ord.length := by
    rcases Nat.lt_or_ge ord.length μ0.length with h | h
    · have := hpre ord.length (by rw [hr0.len]; exact h)
      simp at this
    · exact h
  have hold : ∀ j : Nat, j < μ0.length → ν[j]? = μ0[j]? := fun j hj => by
    rw [hν (hpre j (by rw [hr0.len]; exact hj)), Nat.zero_add, List.getElem?_append_left hj]
  have hat : ∀ (j b : Nat) (b2 : Blk), H2[j]? = some b2 → ν[j]? = some b → ∃ i b0, ord[j]? = some i ∧ (μ0 ++ ext)[i]? = some b ∧ H[i]? = some b0 ∧ BW ord b2 b0 := fun j b b2 hb2 hj => by
    obtain ⟨i, hi, hib⟩ := hν' hj
    obtain ⟨i', b0, e1, e2, e3⟩ := hB j _ hb2
    rw [hi] at e1; cases e1
    exact ⟨i, b0, hi, hib, e2, e3⟩
  refine ⟨ν, ⟨by rw [hS.1]; exact hv.1, fun i x y hx' hy => ?_⟩, ⟨by simp [ν, hol], ?_, ?_, ?_, ?_, ⟨fun b hb => by
      obtain ⟨j, hj⟩ := List.mem_iff_getElem?.1 hb
      obtain ⟨i, _, hi⟩ := hν' hj
      exact hr.base.hi b (List.mem_of_getElem? hi), hr.base.le, hr.base.eq⟩⟩, ⟨⟨ν.drop μ0.length, ?_, ?_⟩, hx.size, hx.os, hx.tape, hx.output, hx.same, ?_⟩⟩
  · have hil : i < ts.length := by rw [← hS.1]; exact (List.getElem?_eq_some_iff.1 hx').1
    rcases hS.2 i x _ hx' (List.getElem?_eq_getElem hil) with h | h
    · exact .inl h
    · refine .inr ?_
      rcases hv.2 i _ y (List.getElem?_eq_getElem hil) hy with h2 | h2
      · rw [h2] at h; cases h
      · exact h.fore hfore h2
  · refine nodup_of fun i j b hi hj => ?_
    obtain ⟨s, hs, hsb⟩ := hν' hi
    obtain ⟨t, ht, htb⟩ := hν' hj
    have := nodup_inj hr.nd hsb htb
    subst this
    exact nodup_inj hnd hs ht
  · intro b hb
    obtain ⟨j, hj⟩ := List.mem_iff_getElem?.1 hb
    obtain ⟨i, _, hi⟩ := hν' hj
    exact hr.lt b (List.mem_of_getElem? hi)
  · intro j b c2 e hc hj
    obtain ⟨i, b0, hi, hib, e1, e3⟩ := hat j b _ hc hj
    cases e3 with
    | cells _ c _ hcc =>
      obtain ⟨c', hw, hcr⟩ := hr.blk i b c e e1 hib
      refine ⟨c', hw, by rw [hcc.1]; exact hcr.1, fun m x y hx' hy => ?_⟩
      have hm : m < c.length := by rw [← hcc.1]; exact (List.getElem?_eq_some_iff.1 hx').1
      exact (hcc.2 m x _ hx' (List.getElem?_eq_getElem hm)).fore hfore (hcr.2 m _ y (List.getElem?_eq_getElem hm) hy)
  · intro j b f hc hj o v ho
    obtain ⟨i, b0, hi, hib, e1, e3⟩ := hat j b _ hc hj
    cases e3 with
    | rc _ c e hf =>
      obtain ⟨v1, h1, h2⟩ := hf o v ho
      obtain ⟨c', hw, hcr⟩ := hr.blk i b c e e1 hib
      obtain ⟨y, hy, hvy⟩ := hcr.get h1
      refine ⟨y, ?_, h2.fore hfore hvy⟩
      rw [cell_of_row w b _ _ e _ hw]
      simpa using hy
    | rr _ g hf =>
      obtain ⟨v1, h1, h2⟩ := hf o v ho
      obtain ⟨y, hy, hvy⟩ := hr.rob i b g e1 hib o v1 h1
      exact ⟨y, hy, h2.fore hfore hvy⟩
  · apply List.ext_getElem?
    intro j
    by_cases hj : j < μ0.length
    · rw [List.getElem?_append_left hj, hold j hj]
    · rw [List.getElem?_append_right (by omega), List.getElem?_drop]
      congr 1; omega
  · intro b hb
    obtain ⟨j, hj⟩ := List.mem_iff_getElem?.1 hb
    rw [List.getElem?_drop] at hj
    obtain ⟨i, hi, hib⟩ := hν' hj
    by_cases hil : i < μ0.length
    · exfalso
      have := nodup_inj hnd hi (by rw [hpre i (by rw [hr0.len]; exact hil), Nat.zero_add])
      omega
    · rw [List.getElem?_append_right (by omega)] at hib
      exact hext b (List.mem_of_getElem? hib)
  · intro j c e hj hc
    obtain ⟨i, b0, e1, e2, e3⟩ := hB j _ hc
    have := hpre j hj
    rw [Nat.zero_add, e1] at this; cases this
    cases e3 with
    | cells _ c0 _ _ => exact hx.own j c0 e hj e2

/-- What is known ahead of the next round, names turned by 'ord' (its first places are the loop's own blocks). -/
theorem fade_ren {H0 H : List Blk} {ts ts2 : List Value} {H2 : List Blk} (ord : List Nat) (hp : (prefB H0.length 0 ord && nodupB ord) = true) (hS : renJL ord ts2 fun l => mix ts l = l) (hB : bwF ord H ord H2) : Fade H0 ts H ts2 H2 := by
  simp only [Bool.and_eq_true] at hp
  obtain ⟨l, hm, hl, hr⟩ := renJL_iff hS
  obtain ⟨hl2, hr2⟩ := mix_iff hm
  refine .inr (weak_of ord hp.1 hp.2 ⟨by omega, fun i x y hx hy => ?_⟩ hB)
  have hil : i < l.length := by rw [hl]; exact (List.getElem?_eq_some_iff.1 hx).1
  rcases hr i x _ hx (List.getElem?_eq_getElem hil) with h | h
  · exact .inl h
  · rcases hr2 i _ y (List.getElem?_eq_getElem hil) hy with h2 | h2
    · rw [h2] at h
      exfalso
      generalize hj : (junk : Value) = z at h
      cases h <;> cases hj
    · exact .inr (h2 ▸ h)

/-- **A loop**, by what the frame and the heap hold ahead of each round, told by any weakening. -/
theorem ALoop.fdw {σ : Type} {body : AK → List Value → List Blk → Prop} {K : AK} {ts : List Value} {H : List Blk} (fr : σ → List Value) (hp : σ → List Blk) (inv : σ → Prop) (m : σ → Nat) (s0 : σ)
    (h0 : Fade H ts H (fr s0) (hp s0)) (hi : inv s0)
    (round : ∀ s, inv s → ∀ R : List Value → List Blk → Prop, (∀ s' ts' H', inv s' → m s' < m s → Fade H ts' H' (fr s') (hp s') → R ts' H') →
      body (fun e ts' H' => match e with | .normal => R ts' H' | e => K e ts' H') (fr s) (hp s)) : ALoop body K ts H := by
  have key : ∀ (n : Nat) (s : σ), inv s → m s < n → roundsF body K H n (fr s) (hp s) := by
    intro n
    induction n with
    | zero => intro s _ h; omega
    | succ n ih =>
      intro s hI hm
      exact round s hI (fun ts' H' => ∃ ts2 H2, Fade H ts' H' ts2 H2 ∧ roundsF body K H n ts2 H2) fun s' ts' H' hI' hm' hf => ⟨_, _, hf, ih s' hI' (by omega)⟩
  exact .fade (m s0 + 1) _ _ h0 (key _ s0 hi (by omega))

/-- What is handed back, known less. -/
def Wk (H : List Blk) (R : Value → List Blk → Prop) : Value → List Blk → Prop := fun v H' => ∃ v2 H2, Weak H [v] H' [v2] H2 ∧ v2 ≠ junk ∧ R v2 H2

theorem ACalls.weak {f : FuncId} {args : List Value} {H : List Blk} {R : Value → List Blk → Prop} (h : ACalls P f args H (Wk H R)) : ACalls P f args H R :=
  ⟨fun μ w cargs hv hrel => by
    obtain ⟨h1, h2⟩ := h.out μ w cargs hv hrel
    refine ⟨h1, h2.mono fun e w' hh => ?_⟩
    obtain ⟨v, cv, μ', H', he, h3, h4, h5, v2, H2, hw, hn, hR⟩ := hh
    obtain ⟨μ2, h6, h7, h8⟩ := hw μ w μ' w' [cv] hrel (VRs.cons h3 VRs.nil).sr h4 h5
    exact ⟨v2, cv, μ2, H2, he, sure_of hn (h6.2 0 v2 cv rfl rfl), h7, h8, hR⟩⟩

theorem wk_of {H H' : List Blk} {v v2 : Value} {H2 : List Blk} {R : Value → List Blk → Prop} (ord : List Nat) (hp : (prefB H.length 0 ord && nodupB ord) = true) (hv : renV 6 ord v2 fun l => l = v) (hB : bwF ord H' ord H2) (hR : R v2 H2) : Wk H R v H' := by
  simp only [Bool.and_eq_true] at hp
  obtain ⟨v', rfl, hr⟩ := renV_iff 6 _ _ hv
  refine ⟨v2, H2, weak_of ord hp.1 hp.2 ⟨rfl, fun i x y hx hy => ?_⟩ hB, fun e => ?_, hR⟩
  · cases i with
    | zero => simp at hx hy; subst hx; subst hy; exact .inr hr
    | succ i => simp at hx
  · subst e
    generalize hj : (junk : Value) = z at hr
    cases hr <;> cases hj

/-- **A contract, by the function's code; what it hands back is told by a weakening.** -/
theorem ACalls.codeW (hT : TabOk P T) (hs : Hints) {f : FuncId} {fn : Func} {args : List Value} {H : List Blk} {R : Value → List Blk → Prop} (hf : P.funcs[f]? = some fn) (hcall : ∀ (args : Array Value) (w : World), (callFunc f args).run P w = .ok (.enter f args) w)
    (hok : codeOk T hs (bodyOf fn) = true) (h : startF args fn.ntmps fun ts => AWpR P T hs (bodyOf fn) (postF T fn.results.toList (Wk H R)) ts H) : ACalls P f args H R := by
  rw [AWpR_eq] at h
  cases hb : fn.body with
  | none => rw [bodyOf, hb] at hok; simp [codeOk] at hok
  | some c =>
    have hc : bodyOf fn = c := by rw [bodyOf, hb]
    rw [hc] at hok h
    exact (ACalls.intro hT hs hf hb hcall hok (start_iff h)).weak

/-- A contract that tells less than all, used. -/
theorem ACalls.useX {α : Type} {f : FuncId} {args0 : List Value} {H0 : List Blk} {Φ : α → Prop} {v0 : α → Value} {H1 : α → List Blk} (h : ACalls P f args0 H0 fun r h => ∃ x, Φ x ∧ r = v0 x ∧ h = H1 x) (σ : List Nat) {args : List Value} {H : List Blk} {k : Value → List Blk → Prop}
    (hn : nodup σ = true) (hat : HAt σ σ H0 H) (hargs : renL (renV 6 σ) args0 fun l => l = args) (hk : ∀ x, Φ x → Back σ H (H1 x) (v0 x) k) : ACalls P f args H k :=
  h.use σ (nodup_spec hn) hat hargs fun _ _ hh => by obtain ⟨x, hx, rfl, rfl⟩ := hh; exact hk x hx

theorem ACalls.imp {f : FuncId} {args : List Value} {H : List Blk} {R R' : Value → List Blk → Prop} (h : ACalls P f args H R) (hi : ∀ v H, R v H → R' v H) : ACalls P f args H R' :=
  ⟨fun μ w cargs hv hrel => by
    obtain ⟨h1, h2⟩ := h.out μ w cargs hv hrel
    refine ⟨h1, h2.mono fun e w' hh => ?_⟩
    obtain ⟨v, cv, μ', H', he, h3, h4, h5, h6⟩ := hh
    exact ⟨v, cv, μ', H', he, h3, h4, h5, hi _ _ h6⟩⟩

/-! ### Rows of numbers, of any length -/
/-- 'i' numbers, then zeros up to 'n'. -/
@[irreducible] def rowI (q : IntKind) (f : Nat → Int) (i n : Nat) : List Value := (List.range n).map fun j => .int q (if j < i then f j else 0)
/-- 'i' numbers. -/
@[irreducible] def rowL (q : IntKind) (f : Nat → Int) (i : Nat) : List Value := (List.range i).map fun j => .int q (f j)
variable {q : IntKind} {f : Nat → Int}
theorem rowI_len (i n : Nat) : (rowI q f i n).length = n := by unfold rowI; simp
theorem rowL_len (i : Nat) : (rowL q f i).length = i := by unfold rowL; simp
theorem rowI_at {i n j : Nat} (hj : j < n) : (rowI q f i n)[j]? = some (.int q (if j < i then f j else 0)) := by
  unfold rowI
  rw [List.getElem?_map, List.getElem?_range hj]; rfl
theorem rowI_get {i n j : Nat} (hj : j < i) (hn : i ≤ n) : (rowI q f i n)[j]? = some (.int q (f j)) := by rw [rowI_at (by omega), if_pos hj]
theorem rowL_get {i j : Nat} (hj : j < i) : (rowL q f i)[j]? = some (.int q (f j)) := by
  unfold rowL
  rw [List.getElem?_map, List.getElem?_range hj]; rfl
theorem rowI_flat {i n : Nat} (μ : List Nat) : VRs μ (rowI q f i n) (rowI q f i n) := ⟨rfl, fun j x y hx hy => by
  rw [hx] at hy; cases hy
  have hj : j < n := by have := (List.getElem?_eq_some_iff.1 hx).1; rwa [rowI_len] at this
  rw [rowI_at hj] at hx; cases hx; exact .int _ _⟩
theorem rowL_flat {i : Nat} (μ : List Nat) : VRs μ (rowL q f i) (rowL q f i) := ⟨rfl, fun j x y hx hy => by
  rw [hx] at hy; cases hy
  have hj : j < i := by have := (List.getElem?_eq_some_iff.1 hx).1; rwa [rowL_len] at this
  rw [rowL_get hj] at hx; cases hx; exact .int _ _⟩
theorem rowL_row {i n : Nat} (h : i ≤ n) : rowL q f i ++ List.replicate (n - i) (.int q 0) = rowI q f i n := by
  apply List.ext_getElem?
  intro j
  rw [List.getElem?_append]
  rw [rowL_len]
  split
  · rename_i hj
    rw [rowL_get hj, rowI_get hj h]
  · rename_i hj
    rw [List.getElem?_replicate]
    by_cases hn : j < n
    · rw [rowI_at hn, if_neg hj, if_pos (by omega)]
    · rw [if_neg (by omega), List.getElem?_eq_none (by rw [rowI_len]; omega)]
theorem row_set {i n : Nat} (h : i < n) : (rowI q f i n).set i (.int q (f i)) = rowI q f (i + 1) n := by
  apply List.ext_getElem?
  intro j
  by_cases hn : j < n
  · rw [List.getElem?_set, rowI_len, rowI_at hn, rowI_at hn]
    split
    · rename_i hij; subst hij; rw [if_pos (by omega)]
    · rename_i hij
      by_cases hji : j < i
      · rw [if_pos hji, if_pos (by omega)]
      · rw [if_neg hji, if_neg (by omega)]
  · rw [List.getElem?_eq_none (by rw [List.length_set, rowI_len]; omega), List.getElem?_eq_none (by rw [rowI_len]; omega)]
theorem row_take {i n : Nat} (h : i ≤ n) : (rowI q f i n).take i = rowL q f i := by
  apply List.ext_getElem?
  intro j
  rw [List.getElem?_take]
  split
  · rename_i hj; rw [rowI_get hj h, rowL_get hj]
  · rename_i hj; rw [List.getElem?_eq_none (by rw [rowL_len]; omega)]
theorem rowL_snoc (i : Nat) : rowL q f i ++ [.int q (f i)] = rowL q f (i + 1) := by
  unfold rowL
  rw [List.range_succ]; simp
theorem row_all {p : Value → Bool} (hp : ∀ x : Int, p (.int q x) = true) {i n : Nat} : (rowI q f i n).all p = true := by
  unfold rowI
  rw [List.all_map, List.all_eq_true]
  intro j _; exact hp _
theorem rowL_all {p : Value → Bool} (hp : ∀ x : Int, p (.int q x) = true) {i : Nat} : (rowL q f i).all p = true := by
  unfold rowL
  rw [List.all_map, List.all_eq_true]
  intro j _; exact hp _
theorem repl_row (n : Nat) : repl n (.int q 0) = rowI q f 0 n := by
  unfold repl rowI
  apply List.ext_getElem?
  intro j
  by_cases hn : j < n
  · rw [List.getElem?_replicate, if_pos hn, List.getElem?_map, List.getElem?_range hn]; simp
  · rw [List.getElem?_replicate, if_neg hn, List.getElem?_eq_none (by simp; omega)]
theorem replZ_one (n : Nat) (z : Value) : replZ n [z] = List.replicate n z := by
  unfold replZ
  induction n with
  | zero => rfl
  | succ n ih => rw [List.replicate_succ, List.flatten_cons, ih, List.replicate_succ]; rfl
theorem replZ_len (n : Nat) (z : Value) : (replZ n [z]).length = n := by rw [replZ_one]; simp

/-! Steps over lists that are words -/
theorem getF_at {α : Type} {l : List α} {i : Nat} {k : α → Prop} (v : α) (h : l[i]? = some v) (hk : k v) : getF l i k := getF_of h hk
theorem lay_one {α : Type} {l : List α} {o : Nat} {v : α} (h : o < l.length) : lay l o [v] = l.set o v := by
  unfold lay
  rw [List.set_eq_take_append_cons_drop, if_pos h]; simp
theorem putF_one {α : Type} {l : List α} {o : Nat} {v : α} {k : List α → Prop} (h : o < l.length) (hk : k (l.set o v)) : putF l o [v] k := putF_of (by simp; omega) (by rw [lay_one h]; exact hk)
theorem getF_row {i n j : Nat} {k : Value → Prop} (hj : j < i) (hn : i ≤ n) (hk : k (.int q (f j))) : getF (rowI q f i n) j k := getF_of (rowI_get hj hn) hk
theorem getF_row' {i n j : Nat} {k : Value → Prop} (j' : Nat) (he : j = j') (hj : j' < i) (hn : i ≤ n) (hk : k (.int q (f j'))) : getF (rowI q f i n) j k := by
  subst he; exact getF_row hj hn hk
theorem putF_row {i n o : Nat} {x : Int} {k : List Value → Prop} (h : i < n) (ho : o = i) (hx : x = f i) (hk : k (rowI q f (i + 1) n)) : putF (rowI q f i n) o [.int q x] k := by
  subst ho; subst hx
  exact putF_one (by rw [rowI_len]; exact h) (by rw [row_set h]; exact hk)
theorem takeF_row {i n o : Nat} {k : List Value → Prop} (h : i ≤ n) (ho : o = i) (hk : k (rowL q f i)) : takeF (rowI q f i n) o k := by
  subst ho
  exact takeF_of (by rw [rowI_len]; exact h) (by rw [row_take h]; exact hk)
theorem dropF_zero {α : Type} {l : List α} {k : List α → Prop} (hk : k l) : dropF l 0 k := dropF_of (Nat.zero_le _) (by simpa using hk)
theorem catF_eq {α : Type} : ∀ {l m : List α} {k : List α → Prop}, catF l m k = k (l ++ m)
  | [], _, _ => rfl
  | _ :: l, m, k => catF_eq (l := l) (k := fun l' => k (_ :: l'))
theorem catF_snoc {i : Nat} {x : Int} {k : List Value → Prop} (hx : x = f i) (hk : k (rowL q f (i + 1))) : catF (rowL q f i) [.int q x] k := by
  subst hx
  rw [catF_eq, rowL_snoc]; exact hk
theorem catF_row {i n m : Nat} {k : List Value → Prop} (hm : m = n - i) (h : i ≤ n) (hk : k (rowI q f i n)) : catF (rowL q f i) (replZ m [.int q 0]) k := by
  subst hm
  rw [catF_eq, replZ_one, rowL_row h]; exact hk
def flatV : Value → Bool
  | .bool _ | .int .. | .string _ => true
  | _ => false
theorem renL_flat {τ : List Nat} {l : List Value} {k : List Value → Prop} (h : ∀ v ∈ l, flatV v = true) (hk : k l) : renL (renV 6 τ) l k := by
  induction l generalizing k with
  | nil => exact hk
  | cons v l ih =>
    unfold renL
    have hv := h v (List.mem_cons_self ..)
    have : renV 6 τ v (fun v' => renL (renV 6 τ) l fun l' => k (v' :: l')) = renL (renV 6 τ) l fun l' => k (v :: l') := by
      cases v <;> first | rfl | simp [flatV] at hv
    rw [this]
    exact ih (fun x hx => h x (List.mem_cons_of_mem _ hx)) hk
theorem rowI_flatV {i n : Nat} : ∀ v ∈ rowI q f i n, flatV v = true := List.all_eq_true.1 (row_all fun _ => rfl)
theorem renL_row {τ : List Nat} {i n : Nat} {k : List Value → Prop} (hk : k (rowI q f i n)) : renL (renV 6 τ) (rowI q f i n) k := renL_flat rowI_flatV hk
theorem BW.row {ord : List Nat} {e : TypeId} {i n : Nat} {c : List Value} (h : c = rowI q f i n) : BW ord (.cells (rowI q f i n) e) (.cells c e) := by
  subst h; exact .cells _ _ _ (rowI_flat _)
theorem row_start {n : Nat} {x : Int} (h : 1 ≤ n) (hx : x = f 0) : .int q x :: replZ (n - 1) [.int q 0] = rowI q f 1 n := by
  subst hx
  rw [replZ_one, ← rowL_row h]
  have : rowL q f 1 = [.int q (f 0)] := by unfold rowL; rfl
  rw [this]; rfl
end
end Go.Aw
end
section
/-
  The cells of a struct with a long row in it, kept as one word.
-/
set_option linter.unusedSectionVars false
namespace Go.Aw
variable [Base]
/-- Cells, a row that nobody unfolds, more cells. -/
@[irreducible] def recC (A L R : List Value) : List Value :=
  match L with
  | [] => A ++ R
  | x :: l => A ++ (x :: l ++ R)
theorem recC_eq (A L R : List Value) : recC A L R = A ++ (L ++ R) := by
  unfold recC
  cases L <;> rfl
/-! The same as 'getF', 'dropF', 'takeF', 'putF', under other names. -/
def getR {α : Type} : List α → Nat → (α → Prop) → Prop
  | [], _, _ => False
  | a :: _, 0, k => k a
  | _ :: l, i + 1, k => getR l i k
def dropR {α : Type} : List α → Nat → (List α → Prop) → Prop
  | l, 0, k => k l
  | [], _ + 1, _ => False
  | _ :: l, n + 1, k => dropR l n k
def takeR {α : Type} : List α → Nat → (List α → Prop) → Prop
  | _, 0, k => k []
  | [], _ + 1, _ => False
  | a :: l, n + 1, k => takeR l n fun l' => k (a :: l')
def putR {α : Type} : List α → Nat → List α → (List α → Prop) → Prop
  | l, 0, [], k => k l
  | [], 0, _ :: _, _ => False
  | _ :: l, 0, v :: vs, k => putR l 0 vs fun l' => k (v :: l')
  | [], _ + 1, _, _ => False
  | a :: l, o + 1, vs, k => putR l o vs fun l' => k (a :: l')
theorem getR_eq {α : Type} : ∀ (l : List α) (i : Nat) (k : α → Prop), getR l i k = getF l i k
  | [], _, _ => rfl
  | _ :: _, 0, _ => rfl
  | _ :: l, i + 1, k => getR_eq l i k
theorem dropR_eq {α : Type} : ∀ (l : List α) (n : Nat) (k : List α → Prop), dropR l n k = dropF l n k
  | [], 0, _ => rfl
  | _ :: _, 0, _ => rfl
  | [], _ + 1, _ => rfl
  | _ :: l, n + 1, k => dropR_eq l n k
theorem takeR_eq {α : Type} : ∀ (l : List α) (n : Nat) (k : List α → Prop), takeR l n k = takeF l n k
  | [], 0, _ => rfl
  | _ :: _, 0, _ => rfl
  | [], _ + 1, _ => rfl
  | a :: l, n + 1, k => takeR_eq l n _
theorem putR_eq {α : Type} : ∀ (l : List α) (o : Nat) (vs : List α) (k : List α → Prop), putR l o vs k = putF l o vs k
  | [], 0, [], _ => rfl
  | _ :: _, 0, [], _ => rfl
  | [], 0, _ :: _, _ => rfl
  | _ :: l, 0, v :: vs, k => putR_eq l 0 vs _
  | [], _ + 1, _, _ => rfl
  | a :: l, o + 1, vs, k => putR_eq l o vs _
section
variable {A L R : List Value} {n o m : Nat} {k : List Value → Prop} {kv : Value → Prop}
theorem recC_len (hL : L.length = n) : (recC A L R).length = A.length + n + R.length := by simp only [recC_eq]; simp [hL]; omega
theorem getF_pre (_h : Nat.blt o A.length = true) (hk : getR A o kv) : getF (recC A L R) o kv := by
  rw [getR_eq] at hk
  obtain ⟨v, hv, hk⟩ := getF_iff hk
  refine getF_of (v := v) ?_ hk
  rw [recC_eq, List.getElem?_append_left (List.getElem?_eq_some_iff.1 hv).1]; exact hv
theorem getF_mid (hL : L.length = n) (j : Nat) (v : Value) (ho : o = A.length + j) (hj : j < n) (hv : L[j]? = some v) (hk : kv v) : getF (recC A L R) o kv := by
  subst ho
  refine getF_of (v := v) ?_ hk
  rw [recC_eq, List.getElem?_append_right (by omega), Nat.add_sub_cancel_left, List.getElem?_append_left (by omega)]; exact hv
theorem getF_suf (hL : L.length = n) (j : Nat) (ho : o = A.length + n + j) (hk : getR R j kv) : getF (recC A L R) o kv := by
  subst ho
  rw [getR_eq] at hk
  obtain ⟨v, hv, hk⟩ := getF_iff hk
  refine getF_of (v := v) ?_ hk
  rw [recC_eq, List.getElem?_append_right (by omega), List.getElem?_append_right (by omega), hL, show A.length + n + j - A.length - n = j by omega]; exact hv
theorem dropF_pre (h : Nat.ble o A.length = true) (hk : dropR A o fun A' => k (recC A' L R)) : dropF (recC A L R) o k := by
  rw [dropR_eq] at hk
  have h := Nat.le_of_ble_eq_true h
  have hk := (dropF_iff hk).2
  refine dropF_of (by simp only [recC_eq]; simp; omega) ?_
  have e : (recC A L R).drop o = recC (A.drop o) L R := by rw [recC_eq, recC_eq, List.drop_append_of_le_length h]
  rw [e]; exact hk
theorem dropF_suf (hL : L.length = n) (j : Nat) (ho : o = A.length + n + j) (hk : dropR R j k) : dropF (recC A L R) o k := by
  subst ho
  rw [dropR_eq] at hk
  obtain ⟨h1, hk⟩ := dropF_iff hk
  refine dropF_of (by rw [recC_len hL]; omega) ?_
  have e : (recC A L R).drop (A.length + n + j) = R.drop j := by
    simp only [recC_eq]
    rw [List.drop_append, List.drop_eq_nil_of_le (by omega), List.nil_append, List.drop_append, List.drop_eq_nil_of_le (by omega), List.nil_append, hL, show A.length + n + j - A.length - n = j by omega]
  rw [e]; exact hk
theorem takeF_mid (hL : L.length = n) (hm : m = n) (hk : k L) : takeF (recC [] L R) m k := by
  subst hm
  refine takeF_of (by rw [recC_len hL]; omega) ?_
  have e : (recC [] L R).take m = L := by
    simp only [recC_eq]
    rw [List.nil_append, List.take_append_of_le_length (by omega), List.take_of_length_le (by omega)]
  rw [e]; exact hk
theorem takeF_rec (hL : L.length = n) (hm : m = A.length + n + R.length) (hk : k (recC A L R)) : takeF (recC A L R) m k :=
  takeF_of (by rw [recC_len hL]; omega) (by rw [List.take_of_length_le (by rw [recC_len hL]; omega)]; exact hk)
theorem takeF_preR (h : Nat.ble m A.length = true) (hk : takeR A m k) : takeF (recC A L R) m k := by
  rw [takeR_eq] at hk
  have h := Nat.le_of_ble_eq_true h
  have hk := (takeF_iff hk).2
  refine takeF_of (by simp only [recC_eq]; simp; omega) ?_
  have e : (recC A L R).take m = A.take m := by simp only [recC_eq]; rw [List.take_append_of_le_length h]
  rw [e]; exact hk
theorem putF_preR {vs : List Value} (h : Nat.ble (o + vs.length) A.length = true) (hk : putR A o vs fun A' => k (recC A' L R)) : putF (recC A L R) o vs k := by
  rw [putR_eq] at hk
  have h := Nat.le_of_ble_eq_true h
  have hk := (putF_iff hk).2
  refine putF_of (by simp only [recC_eq]; simp; omega) ?_
  have e : lay (recC A L R) o vs = recC (lay A o vs) L R := by
    simp only [recC_eq]; unfold lay
    rw [List.take_append_of_le_length (by omega), List.drop_append_of_le_length h]; simp
  rw [e]; exact hk
theorem putF_sufR {vs : List Value} (hL : L.length = n) (j : Nat) (ho : o = A.length + n + j) (hk : putR R j vs fun R' => k (recC A L R')) : putF (recC A L R) o vs k := by
  subst ho
  rw [putR_eq] at hk
  obtain ⟨h1, hk⟩ := putF_iff hk
  refine putF_of (by rw [recC_len hL]; omega) ?_
  have e : lay (recC A L R) (A.length + n + j) vs = recC A L (lay R j vs) := by
    simp only [recC_eq]; unfold lay
    rw [List.take_append, List.take_append, List.drop_append, List.drop_append, List.take_of_length_le (by omega), List.take_of_length_le (l := L) (by omega), List.drop_eq_nil_of_le (as := A) (by omega), List.drop_eq_nil_of_le (as := L) (by omega), hL, show A.length + n + j - A.length - n = j by omega, show A.length + n + j + vs.length - A.length - n = j + vs.length by omega]
    simp
  rw [e]; exact hk
theorem putF_midR {vs : List Value} (hL : L.length = n) (ho : o = A.length) (hv : vs.length = n) (hk : k (recC A vs R)) : putF (recC A L R) o vs k := by
  subst ho
  refine putF_of (by rw [recC_len hL]; omega) ?_
  have e : lay (recC A L R) A.length vs = recC A vs R := by
    simp only [recC_eq]; unfold lay
    rw [List.take_append_of_le_length (Nat.le_refl _), List.take_of_length_le (Nat.le_refl _), List.drop_append, List.drop_eq_nil_of_le (by omega), List.nil_append, List.drop_append, List.drop_eq_nil_of_le (by omega), List.nil_append, hL, hv, show A.length + n - A.length - n = 0 by omega]
    simp
  rw [e]; exact hk
theorem putF_mid1 (hL : L.length = n) (j : Nat) {v : Value} (ho : o = A.length + j) (hj : j < n) (hk : k (recC A (L.set j v) R)) : putF (recC A L R) o [v] k := by
  subst ho
  refine putF_of (by rw [recC_len hL]; simp; omega) ?_
  have e : lay (recC A L R) (A.length + j) [v] = recC A (L.set j v) R := by
    simp only [recC_eq]; unfold lay
    rw [List.take_append, List.take_of_length_le (by omega), List.drop_append, List.drop_eq_nil_of_le (by omega), show A.length + j - A.length = j by omega, List.length_singleton, show A.length + j + 1 - A.length = j + 1 by omega, List.take_append_of_le_length (by omega), List.drop_append_of_le_length (by omega), List.set_eq_take_append_cons_drop, if_pos (by omega)]
    simp
  rw [e]; exact hk
theorem putF_wholeR {l : List Value} (h : (recC A L R).length = l.length) (hk : k (recC A L R)) : putF l 0 (recC A L R) k := putF_of (by omega) (by
  have : lay l 0 (recC A L R) = recC A L R := by unfold lay; simp [h]
  rw [this]; exact hk)
theorem putF_wholeRL {l : List Value} (hL : L.length = n) (h : A.length + n + R.length = l.length) (hk : k (recC A L R)) : putF l 0 (recC A L R) k := putF_wholeR (by rw [recC_len hL, h]) hk
theorem rec_fits (hL : L.length = n) (hm : A.length + n + R.length = m) (h1 : A.all one = true) (h2 : L.all one = true) (h3 : R.all one = true) : (Nat.beq (recC A L R).length m && (recC A L R).all one) = true := by
  rw [recC_len hL, hm, Nat.beq_refl, Bool.true_and]
  simp only [recC_eq]; rw [List.all_append, List.all_append, h1, h2, h3]; rfl
theorem putF_recrec {A' L' R' : List Value} (hL : L.length = n) (hL' : L'.length = n) (hA : A.length = A'.length) (hR : R.length = R'.length) (hk : k (recC A' L' R')) : putF (recC A L R) 0 (recC A' L' R') k :=
  putF_wholeRL hL' (by rw [recC_len hL, hA, hR]) hk
/-- The row laid into cells. -/
theorem putF_intoR {l A' R' : List Value} (ho : o = A'.length) (hL : L.length = n) (hl : l.take o = A') (hr : l.drop (o + n) = R') (hn : o + n ≤ l.length) (hk : k (recC A' L R')) : putF l o L k := by
  refine putF_of (by omega) ?_
  have : lay l o L = recC A' L R' := by simp only [recC_eq]; unfold lay; rw [hL, hl, hr]; simp
  rw [this]; exact hk
theorem recC_all {f : Value → Bool} (h1 : A.all f = true) (h2 : L.all f = true) (h3 : R.all f = true) : (recC A L R).all f = true := by
  simp only [recC_eq]; rw [List.all_append, List.all_append, h1, h2, h3]; rfl
end
theorem renL_appendC {f : Value → VK → Prop} : ∀ {l m : List Value} {k : List Value → Prop}, renL f (l ++ m) k = renL f l fun a => renL f m fun b => k (a ++ b)
  | [], m, k => rfl
  | v :: l, m, k => by
    show f v (fun v' => renL f (l ++ m) fun l' => k (v' :: l')) = f v fun v' => renL f l fun l' => renL f m fun b => k (v' :: (l' ++ b))
    congr 1
    funext v'
    exact renL_appendC
theorem renL_flatC {d : Nat} {τ : List Nat} {l : List Value} {k : List Value → Prop} (h : ∀ v ∈ l, flatV v = true) (hk : k l) : renL (renV (d + 1) τ) l k := by
  induction l generalizing k with
  | nil => exact hk
  | cons v l ih =>
    unfold renL
    have hv := h v (List.mem_cons_self ..)
    have : renV (d + 1) τ v (fun v' => renL (renV (d + 1) τ) l fun l' => k (v' :: l')) = renL (renV (d + 1) τ) l fun l' => k (v :: l') := by
      cases v <;> first | rfl | simp [flatV] at hv
    rw [this]
    exact ih (fun x hx => h x (List.mem_cons_of_mem _ hx)) hk
theorem renL_rec {A L R : List Value} {d : Nat} {τ : List Nat} {k : List Value → Prop} (hf : ∀ v ∈ L, flatV v = true) (hk : renL (renV (d + 1) τ) A fun A' => renL (renV (d + 1) τ) R fun R' => k (recC A' L R')) : renL (renV (d + 1) τ) (recC A L R) k := by
  have e : recC A L R = A ++ (L ++ R) := by rw [recC_eq]
  rw [e, renL_appendC]
  have e2 : (fun a => renL (renV (d + 1) τ) (L ++ R) fun b => k (a ++ b)) = fun a => renL (renV (d + 1) τ) R fun R' => k (recC a L R') := by
    funext a
    rw [renL_appendC]
    have e3 : ∀ R', k (recC a L R') = k (a ++ (L ++ R')) := fun R' => by rw [recC_eq]
    simp only [e3]
    refine propext ⟨fun h => ?_, fun h => renL_flatC hf h⟩
    obtain ⟨l', h2, h1⟩ := renL_iff (renV_iff (d + 1)) h
    have h3 : l' = L := by
      apply List.ext_getElem h1.1.symm
      intro i hi1 hi2
      have key : ∀ a b : Value, flatV a = true → VR τ a b → b = a := by
        intro a b hv hr
        cases hr <;> first | rfl | simp [flatV] at hv
      exact key _ _ (hf _ (List.getElem_mem hi2)) (h1.2 i _ _ (List.getElem?_eq_getElem hi2) (List.getElem?_eq_getElem hi1))
    rw [← h3]; exact h2
  rw [e2]; exact hk
end Go.Aw
end
