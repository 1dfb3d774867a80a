/-
  Walks through the functions of the program, by contract.
-/
import Derived.Test.YtmdiokmkokjpiaaGreatCoreD
import Derived.Carry
import Derived.MapKept
set_option linter.all false
set_option linter.unusedVariables false
set_option linter.unusedSimpArgs false
set_option linter.unnecessarySimpa false
section
/-
  What is known less, with names turned: a slice that grows, a function that hands back a row of any length.
-/
namespace Go.Aw
section
variable {P : Program} {T : Tab}

/-- A block as it is told behind, and as it stood ahead (its names behind are places of 'ord'). -/
inductive BW (ord : List Nat) : Blk → Blk → Prop
  | gone (b : Blk) : BW ord .gone b
  | cells (c2 c : List Value) (e : TypeId) (h : VRs ord c2 c) : BW ord (.cells c2 e) (.cells c e)
  | rc (f : Nat → Option Value) (c : List Value) (e : TypeId) (h : ∀ (o : Nat) (v : Value), f o = some v → ∃ v1, c[o]? = some v1 ∧ VR ord v v1) : BW ord (.ro f) (.cells c e)
  | rr (f g : Nat → Option Value) (h : ∀ (o : Nat) (v : Value), f o = some v → ∃ v1, g o = some v1 ∧ VR ord v v1) : BW ord (.ro f) (.ro g)

theorem BW.lit {ord : List Nat} {c2 c : List Value} {e : TypeId} (h : renL (renV 6 ord) c2 fun l => l = c) : BW ord (.cells c2 e) (.cells c e) := by
  obtain ⟨l, rfl, hv⟩ := renL_iff (renV_iff 6) h
  exact .cells _ _ _ hv
theorem BW.ro (ord : List Nat) {f : Nat → Option Value} (h : FlatRo f) : BW ord (.ro f) (.ro f) := .rr _ _ fun o v ho => ⟨v, ho, h.vr ho _⟩

def bwF (ord : List Nat) (H : List Blk) : List Nat → List Blk → Prop
  | [], [] => True
  | i :: os, b2 :: H2 => (∃ b, H[i]? = some b ∧ BW ord b2 b) ∧ bwF ord H os H2
  | _, _ => False
theorem bwF_iff {ord : List Nat} {H : List Blk} : ∀ {os : List Nat} {H2 : List Blk}, bwF ord H os H2 → os.length = H2.length ∧ ∀ (j : Nat) (b2 : Blk), H2[j]? = some b2 → ∃ i b, os[j]? = some i ∧ H[i]? = some b ∧ BW ord b2 b
  | [], [], _ => ⟨rfl, by simp⟩
  | i :: os, b2 :: H2, h => by
    obtain ⟨⟨b, h1, h2⟩, h3⟩ := h
    obtain ⟨hl, hr⟩ := bwF_iff h3
    refine ⟨by simp [hl], fun j x hx => ?_⟩
    cases j with
    | zero => simp at hx; subst hx; exact ⟨i, b, rfl, h1, h2⟩
    | succ j => simpa using hr j x (by simpa using hx)
  | [], _ :: _, h => False.elim h
  | _ :: _, [], h => False.elim h

/-- The frame behind, its names turned to those ahead; what is unknown stays so. -/
def renJL (ord : List Nat) : List Value → (List Value → Prop) → Prop
  | [], k => k []
  | v :: l, k => match v with
    | .chan none => renJL ord l fun l' => k (.chan none :: l')
    | v => renV 6 ord v fun v' => renJL ord l fun l' => k (v' :: l')
theorem renJL_iff {ord : List Nat} : ∀ {l : List Value} {k : List Value → Prop}, renJL ord l k → ∃ l', k l' ∧ l'.length = l.length ∧ ∀ (i : Nat) (x y : Value), l[i]? = some x → l'[i]? = some y → x = junk ∨ VR ord x y
  | [], k, h => ⟨[], h, rfl, by simp⟩
  | v :: l, k, h => by
    unfold renJL at h
    split at h
    · obtain ⟨l', hk, hl, hr⟩ := renJL_iff h
      refine ⟨_, hk, by simp [hl], fun i x y hx hy => ?_⟩
      cases i with
      | zero => simp at hx; exact .inl hx.symm
      | succ i => exact hr i x y (by simpa using hx) (by simpa using hy)
    · obtain ⟨v', h, hv⟩ := renV_iff 6 _ _ h
      obtain ⟨l', hk, hl, hr⟩ := renJL_iff h
      refine ⟨_, hk, by simp [hl], fun i x y hx hy => ?_⟩
      cases i with
      | zero => simp at hx hy; subst hx; subst hy; exact .inr hv
      | succ i => exact hr i x y (by simpa using hx) (by simpa using hy)

theorem mix_iff : ∀ {l m : List Value}, mix l m = m → l.length = m.length ∧ ∀ (i : Nat) (x y : Value), m[i]? = some x → l[i]? = some y → x = junk ∨ x = y
  | [], [], _ => ⟨rfl, by simp⟩
  | _ :: _, [], h => by simp [mix] at h
  | [], _ :: _, h => by simp [mix] at h
  | v :: l, w :: m, h => by
    have h' : (w = junk ∨ w = v) ∧ mix l m = m := by
      unfold mix at h
      split at h
      · rename_i heq heq2; cases heq; cases heq2; simp at h; exact ⟨.inl rfl, h⟩
      · rename_i heq heq2; cases heq; cases heq2; simp at h; exact ⟨.inr h.1.symm, h.2⟩
      · rename_i heq heq2; cases heq2
      · rename_i heq heq2; cases heq
    obtain ⟨h1, h2⟩ := h'
    obtain ⟨hl, hr⟩ := mix_iff h2
    refine ⟨by simp [hl], fun i x y hx hy => ?_⟩
    cases i with
    | zero => simp at hx hy; subst hx; subst hy; exact h1
    | succ i => exact hr i x y (by simpa using hx) (by simpa using hy)

theorem weak_of {H0 H : List Blk} {ts ts2 : List Value} {H2 : List Blk} (ord : List Nat) (hp : prefB H0.length 0 ord = true) (hn : nodupB ord = true)
    (hS : ts2.length = ts.length ∧ ∀ (i : Nat) (x y : Value), ts2[i]? = some x → ts[i]? = some y → x = junk ∨ VR ord x y) (hB : bwF ord H ord H2) : Weak H0 ts H ts2 H2 := by
  intro μ0 w0 μ w tmps hr0 hv hr hx
  have hpre := prefB_iff hp
  have hnd := nodupB_iff hn
  obtain ⟨hol, hB⟩ := bwF_iff hB
  have hlt : ∀ i ∈ ord, i < H.length := fun i hi => by
    obtain ⟨j, hj⟩ := List.mem_iff_getElem?.1 hi
    have hjl : j < H2.length := by rw [← hol]; exact (List.getElem?_eq_some_iff.1 hj).1
    obtain ⟨i', b, h1, h2, _⟩ := hB j _ (List.getElem?_eq_getElem hjl)
    rw [hj] at h1; cases h1
    exact (List.getElem?_eq_some_iff.1 h2).1
  let ν := ord.map fun i => μ.getD i 0
  have hν : ∀ {j i : Nat}, ord[j]? = some i → ν[j]? = μ[i]? := fun {j i} hj => by
    have hi : i < μ.length := by rw [← hr.len]; exact hlt i (List.mem_of_getElem? hj)
    simp [ν, hj, hi]
  have hν' : ∀ {j b : Nat}, ν[j]? = some b → ∃ i, ord[j]? = some i ∧ μ[i]? = some b := fun {j b} hj => by
    have hjl : j < ord.length := by have := (List.getElem?_eq_some_iff.1 hj).1; simpa [ν] using this
    exact ⟨ord[j], List.getElem?_eq_getElem hjl, by rw [← hν (List.getElem?_eq_getElem hjl)]; exact hj⟩
  have hfore : ∀ i j b : Nat, ord[i]? = some j → μ[j]? = some b → ν[i]? = some b := fun i j b h1 h2 => by rw [hν h1]; exact h2
  obtain ⟨ext, rfl, hext⟩ := hx.pre
  have hole : μ0.length ≤ ord.length := by
    rcases Nat.lt_or_ge ord.length μ0.length with h | h
    · have := hpre ord.length (by rw [hr0.len]; exact h)
      simp at this
    · exact h
  have hold : ∀ j : Nat, j < μ0.length → ν[j]? = μ0[j]? := fun j hj => by
    rw [hν (hpre j (by rw [hr0.len]; exact hj)), Nat.zero_add, List.getElem?_append_left hj]
  have hat : ∀ (j b : Nat) (b2 : Blk), H2[j]? = some b2 → ν[j]? = some b → ∃ i b0, ord[j]? = some i ∧ (μ0 ++ ext)[i]? = some b ∧ H[i]? = some b0 ∧ BW ord b2 b0 := fun j b b2 hb2 hj => by
    obtain ⟨i, hi, hib⟩ := hν' hj
    obtain ⟨i', b0, e1, e2, e3⟩ := hB j _ hb2
    rw [hi] at e1; cases e1
    exact ⟨i, b0, hi, hib, e2, e3⟩
  refine ⟨ν, ⟨by rw [hS.1]; exact hv.1, fun i x y hx' hy => ?_⟩, ⟨by simp [ν, hol], ?_, ?_, ?_, ?_⟩, ⟨⟨ν.drop μ0.length, ?_, ?_⟩, hx.size, hx.os, hx.tape, hx.output, hx.same, ?_⟩⟩
  · have hil : i < ts.length := by rw [← hS.1]; exact (List.getElem?_eq_some_iff.1 hx').1
    rcases hS.2 i x _ hx' (List.getElem?_eq_getElem hil) with h | h
    · exact .inl h
    · refine .inr ?_
      rcases hv.2 i _ y (List.getElem?_eq_getElem hil) hy with h2 | h2
      · rw [h2] at h; cases h
      · exact h.fore hfore h2
  · refine nodup_of fun i j b hi hj => ?_
    obtain ⟨s, hs, hsb⟩ := hν' hi
    obtain ⟨t, ht, htb⟩ := hν' hj
    have := nodup_inj hr.nd hsb htb
    subst this
    exact nodup_inj hnd hs ht
  · intro b hb
    obtain ⟨j, hj⟩ := List.mem_iff_getElem?.1 hb
    obtain ⟨i, _, hi⟩ := hν' hj
    exact hr.lt b (List.mem_of_getElem? hi)
  · intro j b c2 e hc hj
    obtain ⟨i, b0, hi, hib, e1, e3⟩ := hat j b _ hc hj
    cases e3 with
    | cells _ c _ hcc =>
      obtain ⟨c', hw, hcr⟩ := hr.blk i b c e e1 hib
      refine ⟨c', hw, by rw [hcc.1]; exact hcr.1, fun m x y hx' hy => ?_⟩
      have hm : m < c.length := by rw [← hcc.1]; exact (List.getElem?_eq_some_iff.1 hx').1
      exact (hcc.2 m x _ hx' (List.getElem?_eq_getElem hm)).fore hfore (hcr.2 m _ y (List.getElem?_eq_getElem hm) hy)
  · intro j b f hc hj o v ho
    obtain ⟨i, b0, hi, hib, e1, e3⟩ := hat j b _ hc hj
    cases e3 with
    | rc _ c e hf =>
      obtain ⟨v1, h1, h2⟩ := hf o v ho
      obtain ⟨c', hw, hcr⟩ := hr.blk i b c e e1 hib
      obtain ⟨y, hy, hvy⟩ := hcr.get h1
      refine ⟨y, ?_, h2.fore hfore hvy⟩
      rw [cell_of_row w b _ _ e _ hw]
      simpa using hy
    | rr _ g hf =>
      obtain ⟨v1, h1, h2⟩ := hf o v ho
      obtain ⟨y, hy, hvy⟩ := hr.rob i b g e1 hib o v1 h1
      exact ⟨y, hy, h2.fore hfore hvy⟩
  · apply List.ext_getElem?
    intro j
    by_cases hj : j < μ0.length
    · rw [List.getElem?_append_left hj, hold j hj]
    · rw [List.getElem?_append_right (by omega), List.getElem?_drop]
      congr 1; omega
  · intro b hb
    obtain ⟨j, hj⟩ := List.mem_iff_getElem?.1 hb
    rw [List.getElem?_drop] at hj
    obtain ⟨i, hi, hib⟩ := hν' hj
    by_cases hil : i < μ0.length
    · exfalso
      have := nodup_inj hnd hi (by rw [hpre i (by rw [hr0.len]; exact hil), Nat.zero_add])
      omega
    · rw [List.getElem?_append_right (by omega)] at hib
      exact hext b (List.mem_of_getElem? hib)
  · intro j c e hj hc
    obtain ⟨i, b0, e1, e2, e3⟩ := hB j _ hc
    have := hpre j hj
    rw [Nat.zero_add, e1] at this; cases this
    cases e3 with
    | cells _ c0 _ _ => exact hx.own j c0 e hj e2

/-- What is known ahead of the next round, names turned by 'ord' (its first places are the loop's own blocks). -/
theorem fade_ren {H0 H : List Blk} {ts ts2 : List Value} {H2 : List Blk} (ord : List Nat) (hp : (prefB H0.length 0 ord && nodupB ord) = true) (hS : renJL ord ts2 fun l => mix ts l = l) (hB : bwF ord H ord H2) : Fade H0 ts H ts2 H2 := by
  simp only [Bool.and_eq_true] at hp
  obtain ⟨l, hm, hl, hr⟩ := renJL_iff hS
  obtain ⟨hl2, hr2⟩ := mix_iff hm
  refine .inr (weak_of ord hp.1 hp.2 ⟨by omega, fun i x y hx hy => ?_⟩ hB)
  have hil : i < l.length := by rw [hl]; exact (List.getElem?_eq_some_iff.1 hx).1
  rcases hr i x _ hx (List.getElem?_eq_getElem hil) with h | h
  · exact .inl h
  · rcases hr2 i _ y (List.getElem?_eq_getElem hil) hy with h2 | h2
    · rw [h2] at h
      exfalso
      generalize hj : (junk : Value) = z at h
      cases h <;> cases hj
    · exact .inr (h2 ▸ h)

/-- **A loop**, by what the frame and the heap hold ahead of each round, told by any weakening. -/
theorem ALoop.fdw {σ : Type} {body : AK → List Value → List Blk → Prop} {K : AK} {ts : List Value} {H : List Blk} (fr : σ → List Value) (hp : σ → List Blk) (inv : σ → Prop) (m : σ → Nat) (s0 : σ)
    (h0 : Fade H ts H (fr s0) (hp s0)) (hi : inv s0)
    (round : ∀ s, inv s → ∀ R : List Value → List Blk → Prop, (∀ s' ts' H', inv s' → m s' < m s → Fade H ts' H' (fr s') (hp s') → R ts' H') →
      body (fun e ts' H' => match e with | .normal => R ts' H' | e => K e ts' H') (fr s) (hp s)) : ALoop body K ts H := by
  have key : ∀ (n : Nat) (s : σ), inv s → m s < n → roundsF body K H n (fr s) (hp s) := by
    intro n
    induction n with
    | zero => intro s _ h; omega
    | succ n ih =>
      intro s hI hm
      exact round s hI (fun ts' H' => ∃ ts2 H2, Fade H ts' H' ts2 H2 ∧ roundsF body K H n ts2 H2) fun s' ts' H' hI' hm' hf => ⟨_, _, hf, ih s' hI' (by omega)⟩
  exact .fade (m s0 + 1) _ _ h0 (key _ s0 hi (by omega))

/-- What is handed back, known less. -/
def Wk (H : List Blk) (R : Value → List Blk → Prop) : Value → List Blk → Prop := fun v H' => ∃ v2 H2, Weak H [v] H' [v2] H2 ∧ v2 ≠ junk ∧ R v2 H2

theorem ACalls.weak {f : FuncId} {args : List Value} {H : List Blk} {R : Value → List Blk → Prop} (h : ACalls P f args H (Wk H R)) : ACalls P f args H R :=
  ⟨fun μ w cargs hv hrel => by
    obtain ⟨h1, h2⟩ := h.out μ w cargs hv hrel
    refine ⟨h1, h2.mono fun e w' hh => ?_⟩
    obtain ⟨v, cv, μ', H', he, h3, h4, h5, v2, H2, hw, hn, hR⟩ := hh
    obtain ⟨μ2, h6, h7, h8⟩ := hw μ w μ' w' [cv] hrel (VRs.cons h3 VRs.nil).sr h4 h5
    exact ⟨v2, cv, μ2, H2, he, sure_of hn (h6.2 0 v2 cv rfl rfl), h7, h8, hR⟩⟩

theorem wk_of {H H' : List Blk} {v v2 : Value} {H2 : List Blk} {R : Value → List Blk → Prop} (ord : List Nat) (hp : (prefB H.length 0 ord && nodupB ord) = true) (hv : renV 6 ord v2 fun l => l = v) (hB : bwF ord H' ord H2) (hR : R v2 H2) : Wk H R v H' := by
  simp only [Bool.and_eq_true] at hp
  obtain ⟨v', rfl, hr⟩ := renV_iff 6 _ _ hv
  refine ⟨v2, H2, weak_of ord hp.1 hp.2 ⟨rfl, fun i x y hx hy => ?_⟩ hB, fun e => ?_, hR⟩
  · cases i with
    | zero => simp at hx hy; subst hx; subst hy; exact .inr hr
    | succ i => simp at hx
  · subst e
    generalize hj : (junk : Value) = z at hr
    cases hr <;> cases hj

/-- **A contract, by the function's code; what it hands back is told by a weakening.** -/
theorem ACalls.codeW (hT : TabOk P T) (hs : Hints) {f : FuncId} {fn : Func} {args : List Value} {H : List Blk} {R : Value → List Blk → Prop} (hf : P.funcs[f]? = some fn) (hcall : ∀ (args : Array Value) (w : World), (callFunc f args).run P w = .ok (.enter f args) w)
    (hok : codeOk T hs (bodyOf fn) = true) (h : startF args fn.ntmps fun ts => AWpR P T hs (bodyOf fn) (postF T fn.results.toList (Wk H R)) ts H) : ACalls P f args H R := by
  rw [AWpR_eq] at h
  cases hb : fn.body with
  | none => rw [bodyOf, hb] at hok; simp [codeOk] at hok
  | some c =>
    have hc : bodyOf fn = c := by rw [bodyOf, hb]
    rw [hc] at hok h
    exact (ACalls.intro hT hs hf hb hcall hok (start_iff h)).weak

/-- A contract that tells less than all, used. -/
theorem ACalls.useX {α : Type} {f : FuncId} {args0 : List Value} {H0 : List Blk} {Φ : α → Prop} {v0 : α → Value} {H1 : α → List Blk} (h : ACalls P f args0 H0 fun r h => ∃ x, Φ x ∧ r = v0 x ∧ h = H1 x) (σ : List Nat) {args : List Value} {H : List Blk} {k : Value → List Blk → Prop}
    (hn : nodup σ = true) (hat : HAt σ σ H0 H) (hargs : renL (renV 6 σ) args0 fun l => l = args) (hk : ∀ x, Φ x → Back σ H (H1 x) (v0 x) k) : ACalls P f args H k :=
  h.use σ (nodup_spec hn) hat hargs fun _ _ hh => by obtain ⟨x, hx, rfl, rfl⟩ := hh; exact hk x hx

theorem ACalls.imp {f : FuncId} {args : List Value} {H : List Blk} {R R' : Value → List Blk → Prop} (h : ACalls P f args H R) (hi : ∀ v H, R v H → R' v H) : ACalls P f args H R' :=
  ⟨fun μ w cargs hv hrel => by
    obtain ⟨h1, h2⟩ := h.out μ w cargs hv hrel
    refine ⟨h1, h2.mono fun e w' hh => ?_⟩
    obtain ⟨v, cv, μ', H', he, h3, h4, h5, h6⟩ := hh
    exact ⟨v, cv, μ', H', he, h3, h4, h5, hi _ _ h6⟩⟩

/-! ### Rows of numbers, of any length -/
/-- 'i' numbers, then zeros up to 'n'. -/
@[irreducible] def rowI (q : IntKind) (f : Nat → Int) (i n : Nat) : List Value := (List.range n).map fun j => .int q (if j < i then f j else 0)
/-- 'i' numbers. -/
@[irreducible] def rowL (q : IntKind) (f : Nat → Int) (i : Nat) : List Value := (List.range i).map fun j => .int q (f j)
variable {q : IntKind} {f : Nat → Int}
theorem rowI_len (i n : Nat) : (rowI q f i n).length = n := by unfold rowI; simp
theorem rowL_len (i : Nat) : (rowL q f i).length = i := by unfold rowL; simp
theorem rowI_at {i n j : Nat} (hj : j < n) : (rowI q f i n)[j]? = some (.int q (if j < i then f j else 0)) := by
  unfold rowI
  rw [List.getElem?_map, List.getElem?_range hj]; rfl
theorem rowI_get {i n j : Nat} (hj : j < i) (hn : i ≤ n) : (rowI q f i n)[j]? = some (.int q (f j)) := by rw [rowI_at (by omega), if_pos hj]
theorem rowL_get {i j : Nat} (hj : j < i) : (rowL q f i)[j]? = some (.int q (f j)) := by
  unfold rowL
  rw [List.getElem?_map, List.getElem?_range hj]; rfl
theorem rowI_flat {i n : Nat} (μ : List Nat) : VRs μ (rowI q f i n) (rowI q f i n) := ⟨rfl, fun j x y hx hy => by
  rw [hx] at hy; cases hy
  have hj : j < n := by have := (List.getElem?_eq_some_iff.1 hx).1; rwa [rowI_len] at this
  rw [rowI_at hj] at hx; cases hx; exact .int _ _⟩
theorem rowL_flat {i : Nat} (μ : List Nat) : VRs μ (rowL q f i) (rowL q f i) := ⟨rfl, fun j x y hx hy => by
  rw [hx] at hy; cases hy
  have hj : j < i := by have := (List.getElem?_eq_some_iff.1 hx).1; rwa [rowL_len] at this
  rw [rowL_get hj] at hx; cases hx; exact .int _ _⟩
theorem rowL_row {i n : Nat} (h : i ≤ n) : rowL q f i ++ List.replicate (n - i) (.int q 0) = rowI q f i n := by
  apply List.ext_getElem?
  intro j
  rw [List.getElem?_append]
  rw [rowL_len]
  split
  · rename_i hj
    rw [rowL_get hj, rowI_get hj h]
  · rename_i hj
    rw [List.getElem?_replicate]
    by_cases hn : j < n
    · rw [rowI_at hn, if_neg hj, if_pos (by omega)]
    · rw [if_neg (by omega), List.getElem?_eq_none (by rw [rowI_len]; omega)]
theorem row_set {i n : Nat} (h : i < n) : (rowI q f i n).set i (.int q (f i)) = rowI q f (i + 1) n := by
  apply List.ext_getElem?
  intro j
  by_cases hn : j < n
  · rw [List.getElem?_set, rowI_len, rowI_at hn, rowI_at hn]
    split
    · rename_i hij; subst hij; rw [if_pos (by omega)]
    · rename_i hij
      by_cases hji : j < i
      · rw [if_pos hji, if_pos (by omega)]
      · rw [if_neg hji, if_neg (by omega)]
  · rw [List.getElem?_eq_none (by rw [List.length_set, rowI_len]; omega), List.getElem?_eq_none (by rw [rowI_len]; omega)]
theorem row_take {i n : Nat} (h : i ≤ n) : (rowI q f i n).take i = rowL q f i := by
  apply List.ext_getElem?
  intro j
  rw [List.getElem?_take]
  split
  · rename_i hj; rw [rowI_get hj h, rowL_get hj]
  · rename_i hj; rw [List.getElem?_eq_none (by rw [rowL_len]; omega)]
theorem rowL_snoc (i : Nat) : rowL q f i ++ [.int q (f i)] = rowL q f (i + 1) := by
  unfold rowL
  rw [List.range_succ]; simp
theorem row_all {p : Value → Bool} (hp : ∀ x : Int, p (.int q x) = true) {i n : Nat} : (rowI q f i n).all p = true := by
  unfold rowI
  rw [List.all_map, List.all_eq_true]
  intro j _; exact hp _
theorem rowL_all {p : Value → Bool} (hp : ∀ x : Int, p (.int q x) = true) {i : Nat} : (rowL q f i).all p = true := by
  unfold rowL
  rw [List.all_map, List.all_eq_true]
  intro j _; exact hp _
theorem repl_row (n : Nat) : repl n (.int q 0) = rowI q f 0 n := by
  unfold repl rowI
  apply List.ext_getElem?
  intro j
  by_cases hn : j < n
  · rw [List.getElem?_replicate, if_pos hn, List.getElem?_map, List.getElem?_range hn]; simp
  · rw [List.getElem?_replicate, if_neg hn, List.getElem?_eq_none (by simp; omega)]
theorem replZ_one (n : Nat) (z : Value) : replZ n [z] = List.replicate n z := by
  unfold replZ
  induction n with
  | zero => rfl
  | succ n ih => rw [List.replicate_succ, List.flatten_cons, ih, List.replicate_succ]; rfl
theorem replZ_len (n : Nat) (z : Value) : (replZ n [z]).length = n := by rw [replZ_one]; simp

/-! Steps over lists that are words -/
theorem getF_at {α : Type} {l : List α} {i : Nat} {k : α → Prop} (v : α) (h : l[i]? = some v) (hk : k v) : getF l i k := getF_of h hk
theorem lay_one {α : Type} {l : List α} {o : Nat} {v : α} (h : o < l.length) : lay l o [v] = l.set o v := by
  unfold lay
  rw [List.set_eq_take_append_cons_drop, if_pos h]; simp
theorem putF_one {α : Type} {l : List α} {o : Nat} {v : α} {k : List α → Prop} (h : o < l.length) (hk : k (l.set o v)) : putF l o [v] k := putF_of (by simp; omega) (by rw [lay_one h]; exact hk)
theorem getF_row {i n j : Nat} {k : Value → Prop} (hj : j < i) (hn : i ≤ n) (hk : k (.int q (f j))) : getF (rowI q f i n) j k := getF_of (rowI_get hj hn) hk
theorem getF_row' {i n j : Nat} {k : Value → Prop} (j' : Nat) (he : j = j') (hj : j' < i) (hn : i ≤ n) (hk : k (.int q (f j'))) : getF (rowI q f i n) j k := by
  subst he; exact getF_row hj hn hk
theorem putF_row {i n o : Nat} {x : Int} {k : List Value → Prop} (h : i < n) (ho : o = i) (hx : x = f i) (hk : k (rowI q f (i + 1) n)) : putF (rowI q f i n) o [.int q x] k := by
  subst ho; subst hx
  exact putF_one (by rw [rowI_len]; exact h) (by rw [row_set h]; exact hk)
theorem takeF_row {i n o : Nat} {k : List Value → Prop} (h : i ≤ n) (ho : o = i) (hk : k (rowL q f i)) : takeF (rowI q f i n) o k := by
  subst ho
  exact takeF_of (by rw [rowI_len]; exact h) (by rw [row_take h]; exact hk)
theorem dropF_zero {α : Type} {l : List α} {k : List α → Prop} (hk : k l) : dropF l 0 k := dropF_of (Nat.zero_le _) (by simpa using hk)
theorem catF_eq {α : Type} : ∀ {l m : List α} {k : List α → Prop}, catF l m k = k (l ++ m)
  | [], _, _ => rfl
  | _ :: l, m, k => catF_eq (l := l) (k := fun l' => k (_ :: l'))
theorem catF_snoc {i : Nat} {x : Int} {k : List Value → Prop} (hx : x = f i) (hk : k (rowL q f (i + 1))) : catF (rowL q f i) [.int q x] k := by
  subst hx
  rw [catF_eq, rowL_snoc]; exact hk
theorem catF_row {i n m : Nat} {k : List Value → Prop} (hm : m = n - i) (h : i ≤ n) (hk : k (rowI q f i n)) : catF (rowL q f i) (replZ m [.int q 0]) k := by
  subst hm
  rw [catF_eq, replZ_one, rowL_row h]; exact hk
def flatV : Value → Bool
  | .bool _ | .int .. | .string _ => true
  | _ => false
theorem renL_flat {τ : List Nat} {l : List Value} {k : List Value → Prop} (h : ∀ v ∈ l, flatV v = true) (hk : k l) : renL (renV 6 τ) l k := by
  induction l generalizing k with
  | nil => exact hk
  | cons v l ih =>
    unfold renL
    have hv := h v (List.mem_cons_self ..)
    have : renV 6 τ v (fun v' => renL (renV 6 τ) l fun l' => k (v' :: l')) = renL (renV 6 τ) l fun l' => k (v :: l') := by
      cases v <;> first | rfl | simp [flatV] at hv
    rw [this]
    exact ih (fun x hx => h x (List.mem_cons_of_mem _ hx)) hk
theorem rowI_flatV {i n : Nat} : ∀ v ∈ rowI q f i n, flatV v = true := List.all_eq_true.1 (row_all fun _ => rfl)
theorem renL_row {τ : List Nat} {i n : Nat} {k : List Value → Prop} (hk : k (rowI q f i n)) : renL (renV 6 τ) (rowI q f i n) k := renL_flat rowI_flatV hk
theorem BW.row {ord : List Nat} {e : TypeId} {i n : Nat} {c : List Value} (h : c = rowI q f i n) : BW ord (.cells (rowI q f i n) e) (.cells c e) := by
  subst h; exact .cells _ _ _ (rowI_flat _)
theorem row_start {n : Nat} {x : Int} (h : 1 ≤ n) (hx : x = f 0) : .int q x :: replZ (n - 1) [.int q 0] = rowI q f 1 n := by
  subst hx
  rw [replZ_one, ← rowL_row h]
  have : rowL q f 1 = [.int q (f 0)] := by unfold rowL; rfl
  rw [this]; rfl
end
end Go.Aw
end
section
/-
  A function with one range, that hands back something told by a weakening.
-/
namespace Go.Aw
section
variable {P : Program} {T : Tab}
theorem ACalls.codeRW (hT : TabOk P T) (hs : Hints) {f : FuncId} {fn : Func} {args : List Value} {H : List Blk} {R : Value → List Blk → Prop} (hf : P.funcs[f]? = some fn) (hcall : ∀ (args : Array Value) (w : World), (callFunc f args).run P w = .ok (.enter f args) w)
    (hb : fn.body = some (bodyOf fn)) (hok : okO T hs (bodyOf fn) = true) (h : startF args fn.ntmps fun ts => AWpOR P T hs (bodyOf fn) (postF T fn.results.toList (Wk H R)) ts H) : ACalls P f args H R := by
  rw [AWpOR_eq] at h
  exact (ACalls.introO hT hs hf hb hcall hok (start_iff h)).weak
end
end Go.Aw
end
section
/-
  Calls that read two slices, in two blocks or in one.
-/
namespace Go.Aw
open Go.ChangeShapes Go.WideShapes Go.RowKit
variable {P : Program}
theorem fits_length {ks : List CK} {cs : List Value} (h : FitsAll ks cs) : cs.length = ks.length := h.1
theorem slc_fact {off sz len : Nat} {E : Nat → List Value} {ks : List CK} (hE : ∀ i, i < len → FitsAll ks (E i)) (hk : ks.length = sz) : ∀ i, i < len → ∀ m x, (E i)[m]? = some x → slc off sz len E (off + i * sz + m) = some x := by
  intro i hi m x hx
  have h1 := (List.getElem?_eq_some_iff.1 hx).1
  rw [fits_length (hE i hi), hk] at h1
  exact slc_at hi h1 hx rfl
theorem slc_cell {w : World} {b : Nat} {μ : List Nat} {off sz len : Nat} {E : Nat → List Value} {ks : List CK} (hE : ∀ i, i < len → FitsAll ks (E i)) (hs : 0 < sz)
    (hg : ∀ n, n < len → ∀ m x, (E n)[m]? = some x → w.cell? ⟨b, off + n * sz + m, none⟩ = some x) : ∀ (o : Nat) (v : Value), slc off sz len E o = some v → w.cell? ⟨b, o, none⟩ = some v ∧ VR μ v v := by
  intro o v h
  obtain ⟨n, m, hn, rfl, hm⟩ := slc_some h hs
  exact ⟨hg n hn m v hm, ((hE n hn).vrs μ).2 m v v hm hm⟩
/-- What two say. -/
@[irreducible] def orB (f g : Nat → Option Value) (o : Nat) : Option Value := match f o with | some v => some v | none => g o
theorem orB_l {f g : Nat → Option Value} {o : Nat} {v : Value} (h : f o = some v) : orB f g o = some v := by unfold orB; rw [h]
theorem orB_r {f g : Nat → Option Value} {o : Nat} {v : Value} (hc : ∀ u, f o = some u → u = v) (h : g o = some v) : orB f g o = some v := by
  unfold orB
  cases hf : f o with
  | none => exact h
  | some u => rw [hc u hf]
theorem orB_some {f g : Nat → Option Value} {o : Nat} {v : Value} (h : orB f g o = some v) : f o = some v ∨ g o = some v := by
  unfold orB at h
  cases hf : f o with
  | none => rw [hf] at h; exact .inr h
  | some u => rw [hf] at h; exact .inl h
/-- From a contract that reads two blocks. -/
theorem walk_ro2 {f : FuncId} {args cargs : List Value} {g0 g1 : Nat → Option Value} (h : ACalls P f args [.ro g0, .ro g1] fun v _ => v = .bool true) {b0 b1 : Nat} (hne : b0 ≠ b1) (hv : VRs [b0, b1] args cargs) (w : World) (hb0 : b0 < w.heap.size) (hb1 : b1 < w.heap.size)
    (hg0 : ∀ (o : Nat) (v : Value), g0 o = some v → w.cell? ⟨b0, o, none⟩ = some v ∧ VR [b0, b1] v v) (hg1 : ∀ (o : Nat) (v : Value), g1 o = some v → w.cell? ⟨b1, o, none⟩ = some v ∧ VR [b0, b1] v v) :
    Calls P f cargs.toArray w fun e w' => e = .returned (.bool true) ∧ Below w.heap.size w w' := by
  obtain ⟨_, h2⟩ := h.out [b0, b1] w cargs hv ⟨rfl, by simp [hne], by simp [hb0, hb1], fun i b' c e hH _ => by
      match i with
      | 0 => simp at hH
      | 1 => simp at hH
      | i + 2 => simp at hH, fun i b' f' hH hμ o v hf => by
      match i with
      | 0 => simp at hH hμ; subst hH; subst hμ; exact ⟨v, (hg0 o v hf).1, (hg0 o v hf).2⟩
      | 1 => simp at hH hμ; subst hH; subst hμ; exact ⟨v, (hg1 o v hf).1, (hg1 o v hf).2⟩
      | i + 2 => simp at hH⟩
  refine h2.mono fun e w' hh => ?_
  obtain ⟨v, cv, μ', H', rfl, hvr, hr, hx, rfl⟩ := hh
  cases hvr
  exact ⟨rfl, hx.os, hx.tape, hx.output, hx.size, fun k hk => hx.same k hk (by
    rintro ⟨i, c, e, hi, hc⟩
    match i with
    | 0 => simp at hc
    | 1 => simp at hc
    | i + 2 => simp at hi)⟩
end Go.Aw
end
section
/-
  The cells of a struct with a long row in it, kept as one word.
-/
namespace Go.Aw
/-- Cells, a row that nobody unfolds, more cells. -/
@[irreducible] def recC (A L R : List Value) : List Value :=
  match L with
  | [] => A ++ R
  | x :: l => A ++ (x :: l ++ R)
theorem recC_eq (A L R : List Value) : recC A L R = A ++ (L ++ R) := by
  unfold recC
  cases L <;> rfl
/-! The same as 'getF', 'dropF', 'takeF', 'putF', under other names. -/
def getR {α : Type} : List α → Nat → (α → Prop) → Prop
  | [], _, _ => False
  | a :: _, 0, k => k a
  | _ :: l, i + 1, k => getR l i k
def dropR {α : Type} : List α → Nat → (List α → Prop) → Prop
  | l, 0, k => k l
  | [], _ + 1, _ => False
  | _ :: l, n + 1, k => dropR l n k
def takeR {α : Type} : List α → Nat → (List α → Prop) → Prop
  | _, 0, k => k []
  | [], _ + 1, _ => False
  | a :: l, n + 1, k => takeR l n fun l' => k (a :: l')
def putR {α : Type} : List α → Nat → List α → (List α → Prop) → Prop
  | l, 0, [], k => k l
  | [], 0, _ :: _, _ => False
  | _ :: l, 0, v :: vs, k => putR l 0 vs fun l' => k (v :: l')
  | [], _ + 1, _, _ => False
  | a :: l, o + 1, vs, k => putR l o vs fun l' => k (a :: l')
theorem getR_eq {α : Type} : ∀ (l : List α) (i : Nat) (k : α → Prop), getR l i k = getF l i k
  | [], _, _ => rfl
  | _ :: _, 0, _ => rfl
  | _ :: l, i + 1, k => getR_eq l i k
theorem dropR_eq {α : Type} : ∀ (l : List α) (n : Nat) (k : List α → Prop), dropR l n k = dropF l n k
  | [], 0, _ => rfl
  | _ :: _, 0, _ => rfl
  | [], _ + 1, _ => rfl
  | _ :: l, n + 1, k => dropR_eq l n k
theorem takeR_eq {α : Type} : ∀ (l : List α) (n : Nat) (k : List α → Prop), takeR l n k = takeF l n k
  | [], 0, _ => rfl
  | _ :: _, 0, _ => rfl
  | [], _ + 1, _ => rfl
  | a :: l, n + 1, k => takeR_eq l n _
theorem putR_eq {α : Type} : ∀ (l : List α) (o : Nat) (vs : List α) (k : List α → Prop), putR l o vs k = putF l o vs k
  | [], 0, [], _ => rfl
  | _ :: _, 0, [], _ => rfl
  | [], 0, _ :: _, _ => rfl
  | _ :: l, 0, v :: vs, k => putR_eq l 0 vs _
  | [], _ + 1, _, _ => rfl
  | a :: l, o + 1, vs, k => putR_eq l o vs _
section
variable {A L R : List Value} {n o m : Nat} {k : List Value → Prop} {kv : Value → Prop}
theorem recC_len (hL : L.length = n) : (recC A L R).length = A.length + n + R.length := by simp only [recC_eq]; simp [hL]; omega
theorem getF_pre (_h : Nat.blt o A.length = true) (hk : getR A o kv) : getF (recC A L R) o kv := by
  rw [getR_eq] at hk
  obtain ⟨v, hv, hk⟩ := getF_iff hk
  refine getF_of (v := v) ?_ hk
  rw [recC_eq, List.getElem?_append_left (List.getElem?_eq_some_iff.1 hv).1]; exact hv
theorem getF_mid (hL : L.length = n) (j : Nat) (v : Value) (ho : o = A.length + j) (hj : j < n) (hv : L[j]? = some v) (hk : kv v) : getF (recC A L R) o kv := by
  subst ho
  refine getF_of (v := v) ?_ hk
  rw [recC_eq, List.getElem?_append_right (by omega), Nat.add_sub_cancel_left, List.getElem?_append_left (by omega)]; exact hv
theorem getF_suf (hL : L.length = n) (j : Nat) (ho : o = A.length + n + j) (hk : getR R j kv) : getF (recC A L R) o kv := by
  subst ho
  rw [getR_eq] at hk
  obtain ⟨v, hv, hk⟩ := getF_iff hk
  refine getF_of (v := v) ?_ hk
  rw [recC_eq, List.getElem?_append_right (by omega), List.getElem?_append_right (by omega), hL, show A.length + n + j - A.length - n = j by omega]; exact hv
theorem dropF_pre (h : Nat.ble o A.length = true) (hk : dropR A o fun A' => k (recC A' L R)) : dropF (recC A L R) o k := by
  rw [dropR_eq] at hk
  have h := Nat.le_of_ble_eq_true h
  have hk := (dropF_iff hk).2
  refine dropF_of (by simp only [recC_eq]; simp; omega) ?_
  have e : (recC A L R).drop o = recC (A.drop o) L R := by rw [recC_eq, recC_eq, List.drop_append_of_le_length h]
  rw [e]; exact hk
theorem dropF_suf (hL : L.length = n) (j : Nat) (ho : o = A.length + n + j) (hk : dropR R j k) : dropF (recC A L R) o k := by
  subst ho
  rw [dropR_eq] at hk
  obtain ⟨h1, hk⟩ := dropF_iff hk
  refine dropF_of (by rw [recC_len hL]; omega) ?_
  have e : (recC A L R).drop (A.length + n + j) = R.drop j := by
    simp only [recC_eq]
    rw [List.drop_append, List.drop_eq_nil_of_le (by omega), List.nil_append, List.drop_append, List.drop_eq_nil_of_le (by omega), List.nil_append, hL, show A.length + n + j - A.length - n = j by omega]
  rw [e]; exact hk
theorem takeF_mid (hL : L.length = n) (hm : m = n) (hk : k L) : takeF (recC [] L R) m k := by
  subst hm
  refine takeF_of (by rw [recC_len hL]; omega) ?_
  have e : (recC [] L R).take m = L := by
    simp only [recC_eq]
    rw [List.nil_append, List.take_append_of_le_length (by omega), List.take_of_length_le (by omega)]
  rw [e]; exact hk
theorem takeF_rec (hL : L.length = n) (hm : m = A.length + n + R.length) (hk : k (recC A L R)) : takeF (recC A L R) m k :=
  takeF_of (by rw [recC_len hL]; omega) (by rw [List.take_of_length_le (by rw [recC_len hL]; omega)]; exact hk)
theorem takeF_preR (h : Nat.ble m A.length = true) (hk : takeR A m k) : takeF (recC A L R) m k := by
  rw [takeR_eq] at hk
  have h := Nat.le_of_ble_eq_true h
  have hk := (takeF_iff hk).2
  refine takeF_of (by simp only [recC_eq]; simp; omega) ?_
  have e : (recC A L R).take m = A.take m := by simp only [recC_eq]; rw [List.take_append_of_le_length h]
  rw [e]; exact hk
theorem putF_preR {vs : List Value} (h : Nat.ble (o + vs.length) A.length = true) (hk : putR A o vs fun A' => k (recC A' L R)) : putF (recC A L R) o vs k := by
  rw [putR_eq] at hk
  have h := Nat.le_of_ble_eq_true h
  have hk := (putF_iff hk).2
  refine putF_of (by simp only [recC_eq]; simp; omega) ?_
  have e : lay (recC A L R) o vs = recC (lay A o vs) L R := by
    simp only [recC_eq]; unfold lay
    rw [List.take_append_of_le_length (by omega), List.drop_append_of_le_length h]; simp
  rw [e]; exact hk
theorem putF_sufR {vs : List Value} (hL : L.length = n) (j : Nat) (ho : o = A.length + n + j) (hk : putR R j vs fun R' => k (recC A L R')) : putF (recC A L R) o vs k := by
  subst ho
  rw [putR_eq] at hk
  obtain ⟨h1, hk⟩ := putF_iff hk
  refine putF_of (by rw [recC_len hL]; omega) ?_
  have e : lay (recC A L R) (A.length + n + j) vs = recC A L (lay R j vs) := by
    simp only [recC_eq]; unfold lay
    rw [List.take_append, List.take_append, List.drop_append, List.drop_append, List.take_of_length_le (by omega), List.take_of_length_le (l := L) (by omega), List.drop_eq_nil_of_le (as := A) (by omega), List.drop_eq_nil_of_le (as := L) (by omega), hL, show A.length + n + j - A.length - n = j by omega, show A.length + n + j + vs.length - A.length - n = j + vs.length by omega]
    simp
  rw [e]; exact hk
theorem putF_midR {vs : List Value} (hL : L.length = n) (ho : o = A.length) (hv : vs.length = n) (hk : k (recC A vs R)) : putF (recC A L R) o vs k := by
  subst ho
  refine putF_of (by rw [recC_len hL]; omega) ?_
  have e : lay (recC A L R) A.length vs = recC A vs R := by
    simp only [recC_eq]; unfold lay
    rw [List.take_append_of_le_length (Nat.le_refl _), List.take_of_length_le (Nat.le_refl _), List.drop_append, List.drop_eq_nil_of_le (by omega), List.nil_append, List.drop_append, List.drop_eq_nil_of_le (by omega), List.nil_append, hL, hv, show A.length + n - A.length - n = 0 by omega]
    simp
  rw [e]; exact hk
theorem putF_mid1 (hL : L.length = n) (j : Nat) {v : Value} (ho : o = A.length + j) (hj : j < n) (hk : k (recC A (L.set j v) R)) : putF (recC A L R) o [v] k := by
  subst ho
  refine putF_of (by rw [recC_len hL]; simp; omega) ?_
  have e : lay (recC A L R) (A.length + j) [v] = recC A (L.set j v) R := by
    simp only [recC_eq]; unfold lay
    rw [List.take_append, List.take_of_length_le (by omega), List.drop_append, List.drop_eq_nil_of_le (by omega), show A.length + j - A.length = j by omega, List.length_singleton, show A.length + j + 1 - A.length = j + 1 by omega, List.take_append_of_le_length (by omega), List.drop_append_of_le_length (by omega), List.set_eq_take_append_cons_drop, if_pos (by omega)]
    simp
  rw [e]; exact hk
theorem putF_wholeR {l : List Value} (h : (recC A L R).length = l.length) (hk : k (recC A L R)) : putF l 0 (recC A L R) k := putF_of (by omega) (by
  have : lay l 0 (recC A L R) = recC A L R := by unfold lay; simp [h]
  rw [this]; exact hk)
theorem putF_wholeRL {l : List Value} (hL : L.length = n) (h : A.length + n + R.length = l.length) (hk : k (recC A L R)) : putF l 0 (recC A L R) k := putF_wholeR (by rw [recC_len hL, h]) hk
theorem rec_fits (hL : L.length = n) (hm : A.length + n + R.length = m) (h1 : A.all one = true) (h2 : L.all one = true) (h3 : R.all one = true) : (Nat.beq (recC A L R).length m && (recC A L R).all one) = true := by
  rw [recC_len hL, hm, Nat.beq_refl, Bool.true_and]
  simp only [recC_eq]; rw [List.all_append, List.all_append, h1, h2, h3]; rfl
theorem putF_recrec {A' L' R' : List Value} (hL : L.length = n) (hL' : L'.length = n) (hA : A.length = A'.length) (hR : R.length = R'.length) (hk : k (recC A' L' R')) : putF (recC A L R) 0 (recC A' L' R') k :=
  putF_wholeRL hL' (by rw [recC_len hL, hA, hR]) hk
/-- The row laid into cells. -/
theorem putF_intoR {l A' R' : List Value} (ho : o = A'.length) (hL : L.length = n) (hl : l.take o = A') (hr : l.drop (o + n) = R') (hn : o + n ≤ l.length) (hk : k (recC A' L R')) : putF l o L k := by
  refine putF_of (by omega) ?_
  have : lay l o L = recC A' L R' := by simp only [recC_eq]; unfold lay; rw [hL, hl, hr]; simp
  rw [this]; exact hk
theorem recC_all {f : Value → Bool} (h1 : A.all f = true) (h2 : L.all f = true) (h3 : R.all f = true) : (recC A L R).all f = true := by
  simp only [recC_eq]; rw [List.all_append, List.all_append, h1, h2, h3]; rfl
end
theorem renL_appendC {f : Value → VK → Prop} : ∀ {l m : List Value} {k : List Value → Prop}, renL f (l ++ m) k = renL f l fun a => renL f m fun b => k (a ++ b)
  | [], m, k => rfl
  | v :: l, m, k => by
    show f v (fun v' => renL f (l ++ m) fun l' => k (v' :: l')) = f v fun v' => renL f l fun l' => renL f m fun b => k (v' :: (l' ++ b))
    congr 1
    funext v'
    exact renL_appendC
theorem renL_flatC {d : Nat} {τ : List Nat} {l : List Value} {k : List Value → Prop} (h : ∀ v ∈ l, flatV v = true) (hk : k l) : renL (renV (d + 1) τ) l k := by
  induction l generalizing k with
  | nil => exact hk
  | cons v l ih =>
    unfold renL
    have hv := h v (List.mem_cons_self ..)
    have : renV (d + 1) τ v (fun v' => renL (renV (d + 1) τ) l fun l' => k (v' :: l')) = renL (renV (d + 1) τ) l fun l' => k (v :: l') := by
      cases v <;> first | rfl | simp [flatV] at hv
    rw [this]
    exact ih (fun x hx => h x (List.mem_cons_of_mem _ hx)) hk
theorem renL_rec {A L R : List Value} {d : Nat} {τ : List Nat} {k : List Value → Prop} (hf : ∀ v ∈ L, flatV v = true) (hk : renL (renV (d + 1) τ) A fun A' => renL (renV (d + 1) τ) R fun R' => k (recC A' L R')) : renL (renV (d + 1) τ) (recC A L R) k := by
  have e : recC A L R = A ++ (L ++ R) := by rw [recC_eq]
  rw [e, renL_appendC]
  have e2 : (fun a => renL (renV (d + 1) τ) (L ++ R) fun b => k (a ++ b)) = fun a => renL (renV (d + 1) τ) R fun R' => k (recC a L R') := by
    funext a
    rw [renL_appendC]
    have e3 : ∀ R', k (recC a L R') = k (a ++ (L ++ R')) := fun R' => by rw [recC_eq]
    simp only [e3]
    refine propext ⟨fun h => ?_, fun h => renL_flatC hf h⟩
    obtain ⟨l', h2, h1⟩ := renL_iff (renV_iff (d + 1)) h
    have h3 : l' = L := by
      apply List.ext_getElem h1.1.symm
      intro i hi1 hi2
      have key : ∀ a b : Value, flatV a = true → VR τ a b → b = a := by
        intro a b hv hr
        cases hr <;> first | rfl | simp [flatV] at hv
      exact key _ _ (hf _ (List.getElem_mem hi2)) (h1.2 i _ _ (List.getElem?_eq_getElem hi2) (List.getElem?_eq_getElem hi1))
    rw [← h3]; exact h2
  rw [e2]; exact hk
end Go.Aw
end
section
/-
  Straight code with one map in it, made and read within the function.
-/
namespace Go.Aw
section
variable {P : Program} {T : Tab}

/-- The map at 'b' holds these keys, with values that stand for these. -/
def MapAt (kd : IntKind) (μ : List Nat) (b : Nat) (M : List (Int × Value)) (w : World) : Prop :=
  b ∉ μ ∧ ∃ (es : Array MapEntry) (clk : Nat), w.heap[b]? = some (.map es clk) ∧ es.toList.length = M.length ∧
    ∀ (i : Nat) (e : MapEntry) (m : Int × Value), es.toList[i]? = some e → M[i]? = some m → e.key = .int kd m.1 ∧ VR μ m.2 e.val

theorem MapAt.ext {kd : IntKind} {μ μ' : List Nat} {H H' : List Blk} {w w' : World} {b : Nat} {M : List (Int × Value)} (h : MapAt kd μ b M w) (hx : Ext μ H w μ' H' w') : MapAt kd μ' b M w' := by
  obtain ⟨hn, es, clk, hb, hl, hk⟩ := h
  have hlt := (Array.getElem?_eq_some_iff.1 hb).1
  exact ⟨not_mem_ext hx hlt hn, es, clk, (hx.same _ hlt (not_own hn)).trans hb, hl, fun i e m he hm => ⟨(hk i e m he hm).1, (hk i e m he hm).2.mono hx.sub⟩⟩

/-- From a frame and a heap that are so, with the map's pointer in these places, the rest of the operations comes to 'Q'. -/
structure WM (P : Program) (kd : IntKind) (ops : Array Oper) (μ0 : List Nat) (H0 : List Blk) (w0 : World) (Q : Exit → Act → World → Prop) (L : List Nat) (ms : List Tmp) (M : List (Int × Value)) (ts : List Value) (H : List Blk) : Prop where
  out : ∀ (μ : List Nat) (a : Act) (w : World) (b : Nat), SRs μ ts a.tmps.toList → Rel μ H w → Ext μ0 H0 w0 μ H w → a.defers = [] → w0.heap.size ≤ b → MapAt kd μ b M w → (∀ m ∈ ms, a.tmps[m]? = some (.map (some b))) → wpOps P ops Q L a w

variable {kd : IntKind} {ops : Array Oper} {μ0 : List Nat} {H0 : List Blk} {w0 : World} {Q : Exit → Act → World → Prop} {L : List Nat} {ms : List Tmp} {M : List (Int × Value)} {ts : List Value} {H : List Blk} {i : Nat} {o : Oper}

theorem put_ms {a : Act} {b : Nat} {d : Option Tmp} {v : Value} (h : ∀ m ∈ ms, a.tmps[m]? = some (.map (some b))) (hd : ∀ m ∈ ms, d ≠ some m) : ∀ m ∈ ms, (a.put d v).tmps[m]? = some (.map (some b)) := by
  intro m hm
  cases d with
  | none => exact h m hm
  | some d =>
    have : d ≠ m := fun e => hd m hm (by rw [e])
    simp only [Act.put]
    rw [Array.getElem?_setIfInBounds, if_neg this]; exact h m hm

theorem put_defers {a : Act} {d : Option Tmp} {v : Value} (h : a.defers = []) : (a.put d v).defers = [] := by
  unfold Act.put; cases d <;> exact h

theorem wm_step (hT : TabOk P T) (hi : ops[i]? = some o) (hg : o.guard = none) (hd : ms.all (fun m => o.dst != some m) = true) (hok : o.op.operands.toList.all opOk = true) (hl0 : H0.length = μ0.length)
    (h : match quietOp o.op with
      | true => quietS T H ts o.op fun v => putDst ts o.dst v fun ts => WM P kd ops μ0 H0 w0 Q L ms M ts H
      | false => effectF P T H ts o.op fun v H => putDst ts o.dst v fun ts => WM P kd ops μ0 H0 w0 Q L ms M ts H) : WM P kd ops μ0 H0 w0 Q (i :: L) ms M ts H := by
  refine ⟨fun μ a w b hv hr hx hdef hb hm hms => ?_⟩
  have hd' : ∀ m ∈ ms, o.dst ≠ some m := fun m hm => by simpa using List.all_eq_true.1 hd m hm
  unfold wpOps
  simp only [hi]
  rw [if_pos (by simp [Region.wanted, hg])]
  left
  cases hq : quietOp o.op with
  | true =>
    simp only [hq] at h
    obtain ⟨v, cv, h, hvr, hrun⟩ := quietS_here hT o h hok hv hr
    obtain ⟨ts', h, hv'⟩ := put_sound hv hvr h
    exact wp_value (ar := a) rfl hrun (h.out μ _ w b hv' hr hx (put_defers hdef) hb hm (put_ms hms hd'))
  | false =>
    simp only [hq] at h
    refine effect_sound hT o (ar := a) rfl h hok hv hr ?_
    intro v cv μ' H' w' hvr hr' hx' h
    obtain ⟨ts', h, hv'⟩ := put_sound (hv.mono hx'.sub) hvr h
    exact h.out μ' _ w' b hv' hr' (hx.trans hl0 hr.len hx') (put_defers hdef) hb (hm.ext hx') (put_ms hms hd')

/-- The map's pointer is handed on. -/
theorem wm_move (hi : ops[i]? = some o) (hg : o.guard = none) {m d : Tmp} (ho : o.op = .move (.tmp m) ∨ o.op = .assign (.tmp m)) (hdst : o.dst = some d) (hm : m ∈ ms) (hdl : d < ts.length)
    (h : WM P kd ops μ0 H0 w0 Q L (d :: ms) M (ts.set d junk) H) : WM P kd ops μ0 H0 w0 Q (i :: L) ms M ts H := by
  refine ⟨fun μ a w b hv hr hx hdef hb hmap hms => ?_⟩
  unfold wpOps
  simp only [hi]
  rw [if_pos (by simp [Region.wanted, hg])]
  left
  have hev : a.eval (.tmp m) = .map (some b) := by simp [Act.eval, hms m hm]
  have hrun : (execOp a.eval o).run P w = .ok (.value (.map (some b))) w := by
    obtain ⟨dst, op, type, pos, after, guard⟩ := o
    simp only at ho
    rcases ho with rfl | rfl <;> simp [execOp, hev]
  refine wp_value (ar := a) rfl hrun ?_
  rw [hdst]
  have h1 : ts.length = a.tmps.size := by simpa using hv.1
  have hdl' : d < a.tmps.size := Nat.lt_of_lt_of_eq hdl h1
  refine h.out μ _ w b ?_ hr hx (put_defers hdef) hb hmap ?_
  · have hset : SRs μ (ts.set d junk) (a.tmps.toList.set d (.map (some b))) := by
      refine ⟨by simp [hv.1], fun j x y hx hy => ?_⟩
      rw [List.getElem?_set] at hx hy
      by_cases hj : d = j
      · rw [if_pos hj] at hx hy
        rw [if_pos hdl] at hx
        cases hx; exact .inl rfl
      · rw [if_neg hj] at hx hy; exact hv.2 j x y hx hy
    simpa [Act.put] using hset
  · intro m' hm'
    simp only [Act.put]
    rcases List.mem_cons.1 hm' with rfl | hm'
    · rw [Array.getElem?_setIfInBounds, if_pos rfl, if_pos hdl']
    · rw [Array.getElem?_setIfInBounds]
      split
      · rename_i e; subst e; first | rfl | (rw [if_pos hdl'])
      · exact hms m' hm'

theorem findNow_int {kd : IntKind} {k : Int} : ∀ (es : List MapEntry) (M : List (Int × Value)) (n : Nat), es.length = M.length → (∀ (i : Nat) (e : MapEntry) (m : Int × Value), es[i]? = some e → M[i]? = some m → e.key = .int kd m.1) →
    (Instr.findNow (.int kd) (.int kd k) es n = some none ∧ ∀ m ∈ M, k ≠ m.1) ∨ (∃ (j : Nat) (e : MapEntry) (m : Int × Value), Instr.findNow (.int kd) (.int kd k) es n = some (some (n + j, e.val)) ∧ es[j]? = some e ∧ M[j]? = some m ∧ m.1 = k ∧ ∀ j' m', j' < j → M[j']? = some m' → k ≠ m'.1)
  | [], [], n, _, _ => .inl ⟨rfl, fun m hm => by cases hm⟩
  | e :: es, m :: M, n, hl, hk => by
    have h0 := hk 0 e m rfl rfl
    unfold Instr.findNow
    rw [h0]
    simp only [Instr.sameNow, if_true]
    by_cases h : k = m.1
    · right
      refine ⟨0, e, m, ?_, rfl, rfl, h.symm, fun j' m' hj => absurd hj (Nat.not_lt_zero _)⟩
      rw [show (k == m.1) = true from by simp [h]]
      rfl
    · rw [show (k == m.1) = false from by simpa using h]
      rcases findNow_int es M (n + 1) (by simpa using hl) (fun i e' m' he hm => hk (i + 1) e' m' he hm) with ⟨h1, h2⟩ | ⟨j, e', m', h1, h2, h3, h4, h5⟩
      · exact .inl ⟨h1, fun x hx => (List.mem_cons.1 hx).elim (fun hx => by rw [hx]; exact h) (h2 x)⟩
      · right
        refine ⟨j + 1, e', m', by rw [h1, show n + 1 + j = n + (j + 1) by omega], h2, h3, h4, fun j' x hj hx => ?_⟩
        cases j' with
        | zero => cases hx; exact h
        | succ j' => exact h5 j' x (by omega) hx
  | [], _ :: _, _, h, _ => by cases h
  | _ :: _, [], _, h, _ => by cases h

theorem getObj_m {w : World} {r : Nat} {es : Array MapEntry} {clock : Nat} (hb : w.heap[r]? = some (.map es clock)) : (getObj r).run P w = .ok (.map es clock) w := by
  simp [getObj, Sem.run, hb]
theorem setObj_m {w : World} {r : Nat} {es : Array MapEntry} {clock : Nat} (o : Obj) (hb : w.heap[r]? = some (.map es clock)) : (setObj r o).run P w = .ok () { w with heap := w.heap.setIfInBounds r o } := by
  simp [setObj, Sem.run, hb]
theorem checkKey_int {kt : TypeId} {q : IntKind} (hd : ∀ w, (underlying kt).run P w = .ok (.int q) w) (e : Bool) (v : Value) (w : World) : (Instr.checkKey e 10000 kt v).run P w = .ok () w := by
  unfold Instr.checkKey
  simp [hd]

theorem findKey_none {kt : TypeId} {k : Int} (hd : ∀ w, (underlying kt).run P w = .ok (.int kd) w) {es : List MapEntry} (h : Instr.findNow (.int kd) (.int kd k) es 0 = some none) (w : World) : (Instr.findKey kt (.int kd k) es).run P w = .ok none w := by
  unfold Instr.findKey
  simp [hd, h]
theorem findKey_some {kt : TypeId} {k : Int} (hd : ∀ w, (underlying kt).run P w = .ok (.int kd) w) {es : List MapEntry} {r : Nat × Value} (h : Instr.findNow (.int kd) (.int kd k) es 0 = some (some r)) (w : World) : (Instr.findKey kt (.int kd k) es).run P w = .ok (some r) w := by
  unfold Instr.findKey
  simp [hd, h]

/-- A new key. -/
theorem wm_insert {t kt et : TypeId} {m x : Tmp} {k : Int} {v : Value} (hi : ops[i]? = some o) (hg : o.guard = none) (ho : o.op = .insert t (.tmp m) (.const (.int kd k)) (.tmp x)) (hdst : o.dst = none)
    (ht : ∀ w, (underlying t).run P w = .ok (.map kt et) w) (hk : ∀ w, (underlying kt).run P w = .ok (.int kd) w) (hm : m ∈ ms) (hx : ts[x]? = some v) (hv0 : v ≠ junk) (hfr : ∀ e ∈ M, k ≠ e.1) (hl0 : H0.length = μ0.length)
    (h : WM P kd ops μ0 H0 w0 Q L ms (M ++ [(k, v)]) ts H) : WM P kd ops μ0 H0 w0 Q (i :: L) ms M ts H := by
  refine ⟨fun μ a w b hv hr hxt hdef hb hmap hms => ?_⟩
  unfold wpOps
  simp only [hi]
  rw [if_pos (by simp [Region.wanted, hg])]
  left
  obtain ⟨hn, es, clk, hbw, hl, hke⟩ := hmap
  have hlt := (Array.getElem?_eq_some_iff.1 hbw).1
  obtain ⟨cv, hcv, hsr⟩ := hv.get hx
  have hvr := hsr.resolve_left hv0
  have hev : a.eval (.tmp m) = .map (some b) := by simp [Act.eval, hms m hm]
  have hex : a.eval (.tmp x) = cv := by
    have : a.tmps[x]? = some cv := by simpa using hcv
    simp [Act.eval, this]
  have hfn : Instr.findNow (.int kd) (.int kd k) es.toList 0 = some none := by
    rcases findNow_int (k := k) es.toList M 0 hl (fun i e m he hm => (hke i e m he hm).1) with ⟨h1, _⟩ | ⟨j, e, m', _, _, h3, h4, _⟩
    · exact h1
    · exact absurd h4.symm (hfr m' (List.mem_of_getElem? h3))
  have hrun : (Instr.mapUpdate t (.map (some b)) (.int kd k) cv).run P w = .ok () (w.putObj b (.map (es.push { key := .int kd k, val := cv, born := clk }) (clk + 1))) := by
    unfold Instr.mapUpdate
    simp [ht, getObj_m hbw, checkKey_int hk, findKey_none hk hfn, setObj_m _ hbw, World.putObj]
  refine wp_skipped (ar := a) rfl (w' := w.putObj b (.map (es.push { key := .int kd k, val := cv, born := clk }) (clk + 1))) (by
    obtain ⟨dst, op, type, pos, after, guard⟩ := o
    simp only at ho
    subst ho
    have hec : a.eval (.const (.int kd k)) = .int kd k := rfl
    simp [execOp, hev, hex, hec, hrun]) ?_
  rw [hdst]
  refine h.out μ _ _ b hv (hr.putObj hn _) (hxt.putObj hb _) hdef hb ⟨hn, _, _, World.putObj_heap_same hlt, by simp [hl], fun j e m' he hm' => ?_⟩ hms
  simp only [Array.toList_push] at he
  by_cases hj : j < M.length
  · rw [List.getElem?_append_left (by omega)] at he
    rw [List.getElem?_append_left hj] at hm'
    exact hke j e m' he hm'
  · rw [List.getElem?_append_right (by omega)] at he
    rw [List.getElem?_append_right (by omega)] at hm'
    have hj0 : j - M.length = 0 := by
      have := (List.getElem?_eq_some_iff.1 hm').1
      simp at this; omega
    rw [hl, hj0] at he
    rw [hj0] at hm'
    cases he; cases hm'
    exact ⟨rfl, hvr⟩

/-- A key is looked up. -/
theorem wm_lookup {t kt et : TypeId} {m x d : Tmp} {k : Int} {z : Value} (hi : ops[i]? = some o) (hg : o.guard = none) (ho : o.op = .lookup t (.tmp m) (.tmp x) false) (hdst : o.dst = some d)
    (ht : ∀ w, (underlying t).run P w = .ok (.map kt et) w) (hk : ∀ w, (underlying kt).run P w = .ok (.int kd) w) (hz : ∀ w, (zeroValue et).run P w = .ok z w) (hzv : ∀ μ, VR μ z z) (hm : m ∈ ms) (hx : ts[x]? = some (.int kd k)) (hdm : ms.all (fun m => d != m) = true)
    (h : ∀ v, ((∃ (j : Nat), M[j]? = some (k, v) ∧ ∀ (j' : Nat) (m' : Int × Value), j' < j → M[j']? = some m' → k ≠ m'.1) ∨ (v = z ∧ ∀ e ∈ M, k ≠ e.1)) → WM P kd ops μ0 H0 w0 Q L ms M (ts.set d v) H) : WM P kd ops μ0 H0 w0 Q (i :: L) ms M ts H := by
  refine ⟨fun μ a w b hv hr hxt hdef hb hmap hms => ?_⟩
  unfold wpOps
  simp only [hi]
  rw [if_pos (by simp [Region.wanted, hg])]
  left
  obtain ⟨hn, es, clk, hbw, hl, hke⟩ := hmap
  obtain ⟨cx, hcx, hsr⟩ := hv.get hx
  have hxr := hsr.resolve_left (by simp [junk])
  have hex : a.eval (.tmp x) = .int kd k := by
    have : a.tmps[x]? = some cx := by simpa using hcx
    cases hxr
    simp [Act.eval, this]
  have hev : a.eval (.tmp m) = .map (some b) := by simp [Act.eval, hms m hm]
  have fin : ∀ (v cv : Value), VR μ v cv → (execOp a.eval o).run P w = .ok (.value cv) w → WM P kd ops μ0 H0 w0 Q L ms M (ts.set d v) H → o.wp P a w (wpOps P ops Q L) Q := fun v cv hvr hrun hW => by
    refine wp_value (ar := a) rfl hrun ?_
    rw [hdst]
    exact hW.out μ _ w b (by simpa [Act.put] using hv.set d hvr) hr hxt (put_defers hdef) hb ⟨hn, es, clk, hbw, hl, hke⟩ (put_ms hms fun m hm e => by
      have := List.all_eq_true.1 hdm m hm
      cases e
      simp at this)
  have exec : ∀ cv, (Instr.lookup t (.map (some b)) (.int kd k) false).run P w = .ok cv w → (execOp a.eval o).run P w = .ok (.value cv) w := fun cv hr => by
    obtain ⟨dst, op, type, pos, after, guard⟩ := o
    simp only at ho
    subst ho
    simp [execOp, hev, hex, hr]
  rcases findNow_int (k := k) es.toList M 0 hl (fun i e m he hm => (hke i e m he hm).1) with ⟨h1, h2⟩ | ⟨j, e, m', h1, h2, h3, h4, h5⟩
  · refine fin z z (hzv μ) (exec z ?_) (h z (.inr ⟨rfl, h2⟩))
    unfold Instr.lookup
    simp [ht, getObj_m hbw, checkKey_int hk, findKey_none hk h1, hz]
  · have hvr := (hke j e m' h2 h3).2
    refine fin m'.2 e.val hvr (exec e.val ?_) (h m'.2 (.inl ⟨j, by rw [h3, ← h4], h5⟩))
    unfold Instr.lookup
    simp [ht, getObj_m hbw, checkKey_int hk, findKey_some hk h1]

/-- The map is made. -/
theorem wm_make {t : TypeId} {d : Tmp} (hi : ops[i]? = some o) (hg : o.guard = none) (ho : o.op = .makeMap t none) (hdst : o.dst = some d) {μ : List Nat} {a : Act} {w : World} (hv : SRs μ ts a.tmps.toList) (hr : Rel μ H w) (hx : Ext μ0 H0 w0 μ H w) (hdef : a.defers = []) (hl0 : H0.length = μ0.length) (hdl : d < ts.length)
    (h : WM P kd ops μ0 H0 w0 Q L [d] [] (ts.set d junk) H) : wpOps P ops Q (i :: L) a w := by
  unfold wpOps
  simp only [hi]
  rw [if_pos (by simp [Region.wanted, hg])]
  left
  obtain ⟨hr', hx'⟩ := hr.bigger (.map #[] 0)
  have h1 : ts.length = a.tmps.size := by simpa using hv.1
  have hdl' : d < a.tmps.size := Nat.lt_of_lt_of_eq hdl h1
  refine wp_value (ar := a) rfl (w' := w.alloc (.map #[] 0)) (cv := .map (some w.heap.size)) (by
    obtain ⟨dst, op, type, pos, after, guard⟩ := o
    simp only at ho
    subst ho
    simp [execOp, Instr.makeMap]) ?_
  rw [hdst]
  refine h.out μ _ _ w.heap.size ?_ hr' (hx.trans hl0 hr.len hx') (put_defers hdef) (by have := hx.size; omega) ⟨fun hm => Nat.lt_irrefl _ (hr.lt _ hm), #[], 0, World.alloc_heap_new w _, rfl, fun i e m he hm => by cases hm⟩ ?_
  · have hset : SRs μ (ts.set d junk) (a.tmps.toList.set d (.map (some w.heap.size))) := by
      refine ⟨by simp [hv.1], fun j x y hx hy => ?_⟩
      rw [List.getElem?_set] at hx hy
      by_cases hj : d = j
      · rw [if_pos hj] at hx hy
        rw [if_pos hdl] at hx
        cases hx; exact .inl rfl
      · rw [if_neg hj] at hx hy; exact hv.2 j x y hx hy
    simpa [Act.put] using hset
  · intro m hm
    rcases List.mem_cons.1 hm with rfl | hm
    · simp only [Act.put]
      rw [Array.getElem?_setIfInBounds, if_pos rfl, if_pos hdl']
    · cases hm

/-- From the code's run, told by hand. -/
theorem ACalls.introW {f : FuncId} {fn : Func} {c : Code} {args : List Value} {H : List Blk} {R : Value → List Blk → Prop} (hT : TabOk P T) (hf : P.funcs[f]? = some fn) (hb : fn.body = some c)
    (hcall : ∀ (args : Array Value) (w : World), (callFunc f args).run P w = .ok (.enter f args) w)
    (h : ∀ (μ : List Nat) (a : Act) (w : World), SRs μ (args ++ List.replicate (fn.ntmps - args.length) undef) a.tmps.toList → Rel μ H w → a.defers = [] → c.wp P (OutX μ H w (postF T fn.results.toList R)) a w) : ACalls P f args H R := by
  refine ⟨fun μ w cargs hv hr => ⟨hcall _ _, calls_of_wp hf hb ?_⟩⟩
  have hv' : VRs μ (args ++ List.replicate (fn.ntmps - args.length) undef) ((cargs.toArray ++ Array.replicate (fn.ntmps - cargs.toArray.size) undef).toList) := by
    simp only [Array.toList_append, Array.toList_replicate, List.size_toArray]
    rw [hv.1]
    exact hv.append (VRs.replicate _ VR.undef)
  refine wp_mono (h μ _ w hv'.sr hr rfl) fun e a w' ho => ?_
  have fin : ∀ {e : Ex}, (∀ id, e ≠ .exit id) → Out μ H w (postF T fn.results.toList R e) a w' → a.defers = [] ∧ ∃ v, (results fn a.tmps).run P w' = .ok v w' ∧ ∃ (v' cv : Value) (μ' : List Nat) (H' : List Blk), Ending.returned v = .returned cv ∧ VR μ' v' cv ∧ Rel μ' H' w' ∧ Ext μ H w μ' H' w' ∧ R v' H' := fun {e} he ho => by
    obtain ⟨μ1, ts1, H1, hv1, hr1, hx1, hd1, h1⟩ := ho
    have h2 : resF T H1 ts1 fn.results.toList fun vs => match vs with | [v] => R v H1 | vs => R (.tuple vs.toArray) H1 := by
      cases e with
      | exit id => exact absurd rfl (he id)
      | normal => exact h1
      | ret => exact h1
    obtain ⟨vs, cvs, hk, hvs, hrun⟩ := res_sound hT hv1 hr1 _ h2
    refine ⟨hd1, ?_⟩
    have hm : (fn.results.mapM (resStep a.tmps)).run P w' = .ok cvs.toArray w' := by
      rw [Array.mapM_eq_mapM_toList]
      simp [hrun]
    cases vs with
    | nil =>
      have hc0 : cvs = [] := by have := hvs.1; simpa using this.symm
      subst hc0
      exact ⟨.tuple #[], by rw [results_eq]; simp [hm], _, _, μ1, H1, rfl, VR.tups VRs.nil, hr1, hx1, hk⟩
    | cons v vs =>
      cases cvs with
      | nil => exact absurd hvs.1 (by simp)
      | cons cv cvs =>
        cases vs with
        | nil =>
          have hc0 : cvs = [] := by have := hvs.1; simpa using this.symm
          subst hc0
          exact ⟨cv, by rw [results_eq]; simp [hm], _, _, μ1, H1, rfl, hvs.2 0 _ _ rfl rfl, hr1, hx1, hk⟩
        | cons v2 vs =>
          cases cvs with
          | nil => exact absurd hvs.1 (by simp)
          | cons cv2 cvs => exact ⟨.tuple (cv :: cv2 :: cvs).toArray, by rw [results_eq]; simp [hm], _, _, μ1, H1, rfl, VR.tups hvs, hr1, hx1, hk⟩
  cases e with
  | normal => exact fin (e := .normal) (by simp) ho
  | ret => exact fin (e := .ret) (by simp) ho
  | exit id =>
    obtain ⟨_, _, _, _, _, _, _, h5⟩ := ho
    exact False.elim h5
  | goto l => exact False.elim ho
  | panic c => exact False.elim ho
  | outgrown => exact False.elim ho
end
end Go.Aw
end
section
/-
  A range over an iterator that is walked by hand: one round; the iterator's frame, with the function that is handed to it in some places.
-/
namespace Go.Aw
section
variable {P : Program} {T : Tab}

/-- What stands while the range goes on. -/
structure JR (μ : List Nat) (H : List Blk) (w : World) (rec : Loop) (HB : List Blk) (W : World) : Prop where
  rel : Rel μ HB W
  ext : Ext μ H w μ HB W
  loop : W.heap[w.heap.size + 1]? = some (.loop rec)
  def_ : W.heap[w.heap.size]? = some (.deferred (some []))
/-- What stands when it was left by a jump. -/
def JX (μ : List Nat) (H : List Blk) (w : World) (rec : Code → Loop) (KX : Code → List Blk → Prop) (W : World) : Prop :=
  ∃ c μ' H', KX c H' ∧ Rel μ' H' W ∧ Ext μ H w μ' H' W ∧ W.heap[w.heap.size + 1]? = some (.loop (rec c)) ∧ W.heap[w.heap.size]? = some (.deferred (some [])) ∧ w.heap.size ∉ μ' ∧ w.heap.size + 1 ∉ μ'

theorem yield_round (hT : TabOk P T) (hs : Hints) {p0 : Tmp} {asg body : Code} {a : Act} {w : World} {μ : List Nat} {ts : List Value} {H : List Blk} (hv : SRs μ ts a.tmps.toList) (hr : Rel μ H w) {fnn : FuncId} {rec : LoopState → Option Code → Loop}
    (hrec : rec = fun st pe => { state := st, pending := pe, fn := fnn, tmps := a.tmps, params := #[p0], assign := asg, body, defers := w.heap.size }) (hD : w.heap.size ∉ μ) (hL : w.heap.size + 1 ∉ μ)
    {W : World} {Hk HB : List Blk} {v : Value} (hlb : HB.length = H.length) (hvv : VR μ v v) {go : Prop} {KX : Code → List Blk → Prop} (hpa : plainC asg = true) (hpb : plainC body = true) (hoa : codeOk T hs asg = true) (hob : codeOk T hs body = true)
    (hround : AWp P T hs asg (fun e ts1 H1 => match e with | .normal => AWp P T hs body (KRound go Hk HB KX) ts1 H1 | _ => False) (ts.set p0 v) Hk) (hJ : JR μ H w (rec .ready none) Hk W) :
    YieldAt Fence.wide 0 P (w.heap.size + 1) #[v] W fun e W' => (e = .returned (.bool true) ∧ go ∧ JR μ H w (rec .ready none) HB W') ∨ (e = .returned (.bool false) ∧ JX μ H w (fun c => rec .done (some c)) KX W') := by
  obtain ⟨hR, hX, hl, hd⟩ := hJ
  have hlt : w.heap.size + 1 < W.heap.size := (Array.getElem?_eq_some_iff.1 hl).1
  have hy := run_yield (P := P) (args := #[v]) hl (by rw [hrec]; rfl)
  rw [hrec] at hy
  have hz : (#[p0].zip #[v]).foldl (fun tmps (t, a) => tmps.setIfInBounds t a) a.tmps = a.tmps.setIfInBounds p0 v := by simp
  dsimp only at hy
  rw [hz] at hy
  refine ⟨fnn, _, asg, body, hy, roundIn_of_wpIn trivial ?_⟩
  have hv0 : SRs μ (ts.set p0 v) (a.tmps.setIfInBounds p0 v).toList := by simpa using hv.set p0 hvv
  have h1 := code_in (P := P) (r := some (w.heap.size + 1)) (n := 0) (ds := []) hT hs asg _ _ Hk hpa hoa hround μ { tmps := a.tmps.setIfInBounds p0 v, defers := [] } W hv0 hR rfl
  refine wpIn_mono (F := wideR (some (w.heap.size + 1))) h1 ?_
  rintro e a1 Wa ho
  cases e with
  | normal =>
    obtain ⟨μ1, ts1, H1, hv1, hr1, hxa, hd1, hbody⟩ := ho
    have hDa : w.heap.size ∉ μ1 := not_mem_ext hxa (by omega) hD
    have hLa : w.heap.size + 1 ∉ μ1 := not_mem_ext hxa hlt hL
    have hla : Wa.heap[w.heap.size + 1]? = some (.loop (rec .ready none)) := (hxa.same _ hlt (not_own hL)).trans hl
    have hda : Wa.heap[w.heap.size]? = some (.deferred (some [])) := (hxa.same _ (by omega) (not_own hD)).trans hd
    have hlta : w.heap.size + 1 < Wa.heap.size := (Array.getElem?_eq_some_iff.1 hla).1
    refine ⟨_, run_beginRound hla (by rw [hrec]), ?_⟩
    obtain ⟨Wb, hWb⟩ : ∃ Wb, Wa.putObj (w.heap.size + 1) (.loop { rec .ready none with state := .busy }) = Wb := ⟨_, rfl⟩
    rw [hWb]
    have hrb : Rel μ1 H1 Wb := by rw [← hWb]; exact hr1.putObj hLa _
    have hxb : Ext μ H w μ1 H1 Wb := by rw [← hWb]; exact (hX.trans hr.len hR.len hxa).putObj (by omega) _
    have hlb' : Wb.heap[w.heap.size + 1]? = some (.loop { rec .ready none with state := .busy }) := by rw [← hWb]; exact World.putObj_heap_same hlta
    have hdb : Wb.heap[w.heap.size]? = some (.deferred (some [])) := by rw [← hWb]; exact (World.putObj_heap_other (by omega)).trans hda
    have hltb : w.heap.size + 1 < Wb.heap.size := (Array.getElem?_eq_some_iff.1 hlb').1
    have h2 := code_in (P := P) (r := some (w.heap.size + 1)) (n := 0) (ds := []) hT hs body _ _ H1 hpb hob hbody μ1 a1 Wb hv1 hrb hd1
    refine wpIn_mono (F := wideR (some (w.heap.size + 1))) h2 ?_
    have fin : ∀ (jump : Option Code) (μ3 : List Nat) (H3 : List Blk) (W3 : World), Rel μ3 H3 W3 → Ext μ1 H1 Wb μ3 H3 W3 →
        (Instr.endRound (w.heap.size + 1) jump).run P W3 = .ok (.bool jump.isNone) (W3.putObj (w.heap.size + 1) (.loop (rec (if jump.isNone then .ready else .done) jump))) ∧
        Rel μ3 H3 (W3.putObj (w.heap.size + 1) (.loop (rec (if jump.isNone then .ready else .done) jump))) ∧
        Ext μ H w μ3 H3 (W3.putObj (w.heap.size + 1) (.loop (rec (if jump.isNone then .ready else .done) jump))) ∧
        (W3.putObj (w.heap.size + 1) (.loop (rec (if jump.isNone then .ready else .done) jump))).heap[w.heap.size + 1]? = some (.loop (rec (if jump.isNone then .ready else .done) jump)) ∧
        (W3.putObj (w.heap.size + 1) (.loop (rec (if jump.isNone then .ready else .done) jump))).heap[w.heap.size]? = some (.deferred (some [])) ∧
        w.heap.size ∉ μ3 ∧ w.heap.size + 1 ∉ μ3 := fun jump μ3 H3 W3 hr3 hx3 => by
      have hl3 := (hx3.same _ hltb (not_own hLa)).trans hlb'
      have hd3 := (hx3.same _ (by omega) (not_own hDa)).trans hdb
      have hL3 := not_mem_ext hx3 hltb hLa
      have hD3 := not_mem_ext hx3 (by omega : w.heap.size < Wb.heap.size) hDa
      have he := run_endRound (P := P) jump hl3
      rw [hrec] at he
      exact ⟨by rw [hrec]; exact he, hr3.putObj hL3 _, (hxb.trans hr.len hr1.len hx3).putObj (by omega) _, World.putObj_heap_same (Array.getElem?_eq_some_iff.1 hl3).1, (World.putObj_heap_other (by omega)).trans hd3, hD3, hL3⟩
    rintro e a3 W3 ho3
    cases e with
    | normal =>
      obtain ⟨μ3, ts3, H3, hv3, hr3, hx3, _, hgo, ts4, hfade⟩ := ho3
      obtain ⟨he, hr4, hx4, hl4, hd4, _, _⟩ := fin none μ3 H3 W3 hr3 hx3
      have hxk : Ext μ Hk W μ3 H3 (W3.putObj (w.heap.size + 1) (.loop (rec .ready none))) := by
        refine hxa.trans hR.len hr1.len ⟨?_, ?_, ?_, ?_, ?_, ?_, hx3.own⟩
        · have := hx3.pre; rw [← hWb, World.putObj_size] at this; exact this
        · have := hx3.size; rw [← hWb, World.putObj_size] at this; rw [World.putObj_size]; exact this
        · have := hx3.os; rw [← hWb] at this; exact this
        · have := hx3.tape; rw [← hWb] at this; exact this
        · have := hx3.output; rw [← hWb] at this; exact this
        · intro b hb' hno
          by_cases hbl : b = w.heap.size + 1
          · subst hbl; rw [hla]; exact hl4
          · have e1 : Wb.heap[b]? = Wa.heap[b]? := by rw [← hWb]; exact World.putObj_heap_other hbl
            rw [World.putObj_heap_other hbl, hx3.same b (by rw [← hWb, World.putObj_size]; exact hb') hno, e1]
      obtain ⟨μ5, _, hr5, hx5⟩ := fade_sound hR hv3 hr4 hxk hfade
      have hμ5 : μ5 = μ := by
        obtain ⟨ext, rfl, _⟩ := hx5.pre
        have h5 := hr5.len
        rw [hlb, List.length_append, ← hr.len] at h5
        have : ext = [] := List.length_eq_zero_iff.1 (by omega)
        rw [this, List.append_nil]
      subst hμ5
      exact ⟨_, _, he, .inl ⟨rfl, hgo, ⟨hr5, hX.trans hr.len hR.len hx5, hl4, hd4⟩⟩⟩
    | ret =>
      obtain ⟨μ3, ts3, H3, hv3, hr3, hx3, _, hkx⟩ := ho3
      obtain ⟨he, hr4, hx4, hl4, hd4, hD4, hL4⟩ := fin (some .ret) μ3 H3 W3 hr3 hx3
      exact ⟨_, _, he, .inr ⟨rfl, .ret, μ3, H3, hkx, hr4, hx4, hl4, hd4, hD4, hL4⟩⟩
    | exit id =>
      obtain ⟨μ3, ts3, H3, hv3, hr3, hx3, _, hkx⟩ := ho3
      obtain ⟨he, hr4, hx4, hl4, hd4, hD4, hL4⟩ := fin (some (.exit id)) μ3 H3 W3 hr3 hx3
      exact ⟨_, _, he, .inr ⟨rfl, .exit id, μ3, H3, hkx, hr4, hx4, hl4, hd4, hD4, hL4⟩⟩
    | goto t => exact ho3.elim
    | panic ch => exact ho3.elim
    | outgrown => exact ho3.elim
  | exit id => obtain ⟨_, _, _, _, _, _, _, hk'⟩ := ho; exact hk'.elim
  | ret => obtain ⟨_, _, _, _, _, _, _, hk'⟩ := ho; exact hk'.elim
  | goto t => exact ho.elim
  | panic ch => exact ho.elim
  | outgrown => exact ho.elim

/-- From a frame that is so, with the function that is handed on in these places, the rest of the operations comes to 'Q'. -/
structure WY (P : Program) (ops : Array Oper) (μ : List Nat) (J : World → Prop) (l : Nat) (Q : Exit → Act → World → Prop) (L : List Nat) (ms : List Tmp) (ts : List Value) : Prop where
  out : ∀ (a : Act) (W : World), SRs μ ts a.tmps.toList → J W → a.defers = [] → (∀ m ∈ ms, a.tmps[m]? = some (.func (.yield l) #[] #[])) → wpOpsIn Fence.wide 0 P ops Q L a W

variable {ops : Array Oper} {μ : List Nat} {J : World → Prop} {l : Nat} {Q : Exit → Act → World → Prop} {L : List Nat} {ms : List Tmp} {ts : List Value} {H : List Blk} {i : Nat} {o : Oper}

theorem put_my {a : Act} {d : Option Tmp} {v : Value} (h : ∀ m ∈ ms, a.tmps[m]? = some (.func (.yield l) #[] #[])) (hd : ms.all (fun m => d != some m) = true) : ∀ m ∈ ms, (a.put d v).tmps[m]? = some (.func (.yield l) #[] #[]) := by
  intro m hm
  have hd' : d ≠ some m := by simpa using List.all_eq_true.1 hd m hm
  cases d with
  | none => exact h m hm
  | some d =>
    have : d ≠ m := fun e => hd' (by rw [e])
    simp only [Act.put]
    rw [Array.getElem?_setIfInBounds, if_neg this]; exact h m hm

/-- A quiet operation. -/
theorem wy_quiet (hT : TabOk P T) (hJ : ∀ W, J W → Rel μ H W) (hi : ops[i]? = some o) (hq : quietOp o.op = true) (hd : ms.all (fun m => o.dst != some m) = true) (hok : o.op.operands.toList.all opOk = true)
    (h : wantF ops.toList ts o.guard (fun _ => quietS T H ts o.op fun v => putDst ts o.dst v fun ts => WY P ops μ J l Q L ms ts) (fun _ => putDst ts o.dst undef fun ts => WY P ops μ J l Q L ms ts)) : WY P ops μ J l Q (i :: L) ms ts := by
  refine ⟨fun a W hv hj hdef hms => ?_⟩
  unfold wpOpsIn
  simp only [hi]
  rcases want_sound hv h with ⟨hw, h⟩ | ⟨hw, h⟩
  · rw [if_pos hw]
    obtain ⟨v, cv, h, hvr, hrun⟩ := quietS_here hT o h hok hv (hJ W hj)
    obtain ⟨ts', h, hv'⟩ := put_sound hv hvr h
    refine op_in (r := none) ?_ (wp_value (ar := a) rfl hrun (h.out _ W hv' hj (put_defers hdef) (put_my hms hd)))
    unfold noDefer
    split
    · rename_i heq; rw [heq] at hq; simp [quietOp] at hq
    · rfl
  · rw [if_neg (by simp [hw])]
    obtain ⟨ts', h, hv'⟩ := put_sound hv VR.undef h
    exact ⟨fun _ _ => trivial, h.out _ W hv' hj (put_defers hdef) (put_my hms hd)⟩

/-- An operation that is not wanted. -/
theorem wy_skip (hi : ops[i]? = some o) (hd : ms.all (fun m => o.dst != some m) = true) (h : wantF ops.toList ts o.guard (fun _ => False) (fun _ => putDst ts o.dst undef fun ts => WY P ops μ J l Q L ms ts)) : WY P ops μ J l Q (i :: L) ms ts := by
  refine ⟨fun a W hv hj hdef hms => ?_⟩
  unfold wpOpsIn
  simp only [hi]
  rcases want_sound hv h with ⟨_, h⟩ | ⟨hw, h⟩
  · exact h.elim
  · rw [if_neg (by simp [hw])]
    obtain ⟨ts', h, hv'⟩ := put_sound hv VR.undef h
    exact ⟨fun _ _ => trivial, h.out _ W hv' hj (put_defers hdef) (put_my hms hd)⟩

/-- The function is handed on, if it is wanted. -/
theorem wy_move (hi : ops[i]? = some o) {m d : Tmp} (ho : o.op = .move (.tmp m)) (hdst : o.dst = some d) (hm : m ∈ ms) (hdl : d < ts.length) (hnd : ms.all (fun m => d != m) = true)
    (h : wantF ops.toList ts o.guard (fun _ => WY P ops μ J l Q L (d :: ms) (ts.set d junk)) (fun _ => putDst ts o.dst undef fun ts => WY P ops μ J l Q L ms ts)) : WY P ops μ J l Q (i :: L) ms ts := by
  refine ⟨fun a W hv hj hdef hms => ?_⟩
  unfold wpOpsIn
  simp only [hi]
  have hnd' : ms.all (fun m => o.dst != some m) = true := by
    rw [hdst]
    refine List.all_eq_true.2 fun x hx => ?_
    have := List.all_eq_true.1 hnd x hx
    simpa using this
  rcases want_sound hv h with ⟨hw, h⟩ | ⟨hw, h⟩
  · rw [if_pos hw]
    have hev : a.eval (.tmp m) = .func (.yield l) #[] #[] := by simp [Act.eval, hms m hm]
    have h1 : ts.length = a.tmps.size := by simpa using hv.1
    have hdl' : d < a.tmps.size := Nat.lt_of_lt_of_eq hdl h1
    refine op_in (r := none) (by unfold noDefer; rw [ho]) (wp_value (ar := a) rfl (cv := .func (.yield l) #[] #[]) (w' := W) (by
      obtain ⟨dst, op, type, pos, after, guard⟩ := o
      simp only at ho
      subst ho
      simp [execOp, hev]) ?_)
    rw [hdst]
    refine h.out _ W ?_ hj (put_defers hdef) ?_
    · have hset : SRs μ (ts.set d junk) (a.tmps.toList.set d (.func (.yield l) #[] #[])) := by
        refine ⟨by simp [hv.1], fun j x y hx hy => ?_⟩
        rw [List.getElem?_set] at hx hy
        by_cases hj : d = j
        · rw [if_pos hj] at hx hy
          rw [if_pos hdl] at hx
          cases hx; exact .inl rfl
        · rw [if_neg hj] at hx hy; exact hv.2 j x y hx hy
      simpa [Act.put] using hset
    · intro x hx
      simp only [Act.put]
      rcases List.mem_cons.1 hx with rfl | hx
      · rw [Array.getElem?_setIfInBounds, if_pos rfl, if_pos hdl']
      · rw [Array.getElem?_setIfInBounds]
        split
        · rename_i e; subst e; first | rfl | (rw [if_pos hdl'])
        · exact hms x hx
  · rw [if_neg (by simp [hw])]
    obtain ⟨ts', h, hv'⟩ := put_sound hv VR.undef h
    exact ⟨fun _ _ => trivial, h.out _ W hv' hj (put_defers hdef) (put_my hms hnd')⟩

/-- The function is called. -/
theorem wy_call {m x d : Tmp} {ta : Array TypeId} {v : Value} {R : Ending → World → Prop} (hi : ops[i]? = some o) (ho : o.op = .call ⟨.value (.tmp m), #[.tmp x], ta⟩) (hdst : o.dst = some d) (hm : m ∈ ms) (hx : ts[x]? = some v) (hv0 : v ≠ junk) (hvc : ∀ cv, VR μ v cv → cv = v)
    (hnd : ms.all (fun m => o.dst != some m) = true) (hy : ∀ W, J W → YieldAt Fence.wide 0 P l #[v] W R) (hwant : wantF ops.toList ts o.guard (fun _ => True) (fun _ => False))
    (h : ∀ e W', R e W' → ∃ b, e = .returned (.bool b) ∧ ∀ (a : Act), SRs μ (ts.set d (.bool b)) a.tmps.toList → a.defers = [] → (∀ m ∈ ms, a.tmps[m]? = some (.func (.yield l) #[] #[])) → wpOpsIn Fence.wide 0 P ops Q L a W') : WY P ops μ J l Q (i :: L) ms ts := by
  refine ⟨fun a W hv hj hdef hms => ?_⟩
  unfold wpOpsIn
  simp only [hi]
  rcases want_sound hv hwant with ⟨hw, _⟩ | ⟨_, hf⟩
  · rw [if_pos hw]
    obtain ⟨cv, hcv, hsr⟩ := hv.get hx
    have hcv2 := hvc cv (hsr.resolve_left hv0)
    subst hcv2
    have hev : a.eval (.tmp m) = .func (.yield l) #[] #[] := by simp [Act.eval, hms m hm]
    have hex : a.eval (.tmp x) = cv := by
      have : a.tmps[x]? = some cv := by simpa using hcv
      simp [Act.eval, this]
    obtain ⟨fn', tmps', asg', body', hyr, hR⟩ := hy W hj
    have hrun : (execOp a.eval o).run P W = .ok (.round l fn' tmps' asg' body') W := by
      obtain ⟨dst, op, type, pos, after, guard⟩ := o
      simp only at ho
      subst ho
      simp [execOp, hev, hex, resolve, Deferred.ofValue, Sem.run_bind, invoke, hyr]
    refine ⟨fun _ _ => trivial, ?_⟩
    show o.uponIn Fence.wide 0 P a _ Q ((execOp a.eval o).run P W)
    rw [hrun]
    refine ⟨fun hx => by simp [Fence.wide] at hx, RoundIn.mono' hR fun e w'' hr => ?_⟩
    obtain ⟨b, rfl, hk⟩ := h e w'' hr
    rw [hdst]
    exact hk _ (by simpa [Act.put] using hv.set d (.bool b)) (put_defers hdef) (by rw [← hdst]; exact put_my hms hnd)
  · exact hf.elim
end
end Go.Aw
end
