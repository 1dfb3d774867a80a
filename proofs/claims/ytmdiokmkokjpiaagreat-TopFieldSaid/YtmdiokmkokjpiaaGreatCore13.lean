/-
  Contracts: what is forgotten at the end; a contract over a small heap, used in a larger one; loops.
-/
import Derived.Test.YtmdiokmkokjpiaaGreatCore12
set_option linter.all false
set_option linter.unusedVariables false
set_option linter.unusedSimpArgs false
set_option linter.unnecessarySimpa false
namespace Go.Aw
section
variable {P : Program} {T : Tab}

/-- The blocks that stood at the beginning name no younger ones. -/
def tidyF (n : Nat) : List Blk → List Blk → (Unit → Prop) → Prop
  | [], _, k => k ()
  | b0 :: H, b :: H', k => match b with
    | .cells c _ => Req (c.all (bdv 6 n)) fun _ => tidyF n H H' k
    | .ro f => Blk.ro f = b0 ∧ tidyF n H H' k
    | .gone => tidyF n H H' k
  | _ :: _, [], _ => False

/-- What is new is forgotten. -/
def Tidy (H : List Blk) (R : Value → List Blk → Prop) : Value → List Blk → Prop := fun v H' =>
  Req (bdv 6 H.length v) fun _ => takeF H' H.length fun H1 => tidyF H.length H H1 fun _ => R v H1

theorem tidy_iff {n : Nat} : ∀ {H H' : List Blk} {k : Unit → Prop}, tidyF n H H' k → k () ∧ ∀ i, i < H.length → (∃ c e, H'[i]? = some (.cells c e) ∧ c.all (bdv 6 n) = true) ∨ (∃ f, H'[i]? = some (.ro f) ∧ H[i]? = some (.ro f)) ∨ H'[i]? = some .gone
  | [], _, k, h => ⟨h, by simp⟩
  | b0 :: H, [], k, h => False.elim h
  | b0 :: H, b :: H', k, h => by
    cases b with
    | cells c e =>
      unfold tidyF at h
      replace h := req_iff h
      obtain ⟨h1, h⟩ := h
      obtain ⟨hk, hr⟩ := tidy_iff h
      refine ⟨hk, fun i hi => ?_⟩
      cases i with
      | zero => exact .inl ⟨c, e, rfl, h1⟩
      | succ i => simpa using hr i (by simpa using hi)
    | ro f =>
      obtain ⟨h1, h⟩ := h
      obtain ⟨hk, hr⟩ := tidy_iff h
      refine ⟨hk, fun i hi => ?_⟩
      cases i with
      | zero => exact .inr (.inl ⟨f, rfl, by rw [h1]; rfl⟩)
      | succ i => simpa using hr i (by simpa using hi)
    | gone =>
      obtain ⟨hk, hr⟩ := tidy_iff (H := H) (H' := H') h
      refine ⟨hk, fun i hi => ?_⟩
      cases i with
      | zero => exact .inr (.inr rfl)
      | succ i => simpa using hr i (by simpa using hi)

theorem ACalls.tidy {f : FuncId} {args : List Value} {H : List Blk} {R : Value → List Blk → Prop} (h : ACalls P f args H (Tidy H R)) : ACalls P f args H R :=
  ⟨fun μ w cargs hv hrel => by
    obtain ⟨h1, h2⟩ := h.out μ w cargs hv hrel
    refine ⟨h1, h2.mono fun e w' hh => ?_⟩
    obtain ⟨v, cv, μ', H', he, h3, h4, h5, h6⟩ := hh
    obtain ⟨hb, h6⟩ := req_iff h6
    obtain ⟨hlen, h6⟩ := takeF_iff h6
    obtain ⟨hk, hall⟩ := tidy_iff h6
    obtain ⟨ext, rfl, hext⟩ := h5.pre
    have hs : ∀ i b, i < H.length → (μ ++ ext)[i]? = some b → μ[i]? = some b := fun i b hi hb => by
      rw [List.getElem?_append_left (by rw [← hrel.len]; exact hi)] at hb; exact hb
    have ht : ∀ i, i < H.length → (H'.take H.length)[i]? = H'[i]? := fun i hi => by rw [List.getElem?_take, if_pos hi]
    have hlt : ∀ {i b}, (H'.take H.length)[i]? = some b → i < H.length := fun {i b} hi => by
      have := (List.getElem?_eq_some_iff.1 hi).1; simp at this; omega
    refine ⟨v, cv, μ, H'.take H.length, he, h3.cut hs 6 _ _ hb, ⟨by rw [List.length_take, Nat.min_eq_left hlen]; exact hrel.len, hrel.nd, fun b hb => Nat.lt_of_lt_of_le (hrel.lt b hb) h5.size, ?_, ?_⟩, ⟨⟨[], by simp, by simp⟩, h5.size, h5.os, h5.tape, h5.output, h5.same, ?_⟩, hk⟩
    · intro i b c e hH hμ
      have hi := hlt hH
      have hH' := hH
      rw [ht i hi] at hH'
      obtain ⟨c', hw, hc⟩ := h4.blk i b c e hH' (h5.sub _ _ hμ)
      refine ⟨c', hw, hc.1, fun j x y hx hy => ?_⟩
      rcases hall i hi with ⟨c1, e1, h7, h8⟩ | ⟨f1, h7, _⟩ | h7
      · rw [hH] at h7; cases h7
        exact (hc.2 j x y hx hy).cut hs 6 _ _ ((List.all_eq_true.1 h8) x (List.mem_of_getElem? hx))
      · rw [hH] at h7; cases h7
      · rw [hH] at h7; cases h7
    · intro i b f hH hμ o v hf
      have hi := hlt hH
      rcases hall i hi with ⟨c1, e1, h7, h8⟩ | ⟨f1, h7, h8⟩ | h7
      · rw [hH] at h7; cases h7
      · rw [hH] at h7; cases h7
        obtain ⟨v', hc, hvr⟩ := hrel.rob i b f h8 hμ o v hf
        refine ⟨v', ?_, hvr⟩
        rw [cell?_of_heap_eq (h5.same b (hrel.lt b (List.mem_of_getElem? hμ)) ?_)]
        · exact hc
        · rintro ⟨j, c, e, hj, hc⟩
          have := nodup_inj hrel.nd hμ hj
          subst this
          rw [h8] at hc; cases hc
      · rw [hH] at h7; cases h7
    · intro i c e hi hc
      rw [ht i hi] at hc
      exact h5.own i c e hi hc⟩

/-- A contract of a function's own code. -/
theorem ACalls.make (hT : TabOk P T) (hs : Hints) {f : FuncId} {fn : Func} {c : Code} {args : List Value} {H : List Blk} {R : Value → List Blk → Prop} (hf : P.funcs[f]? = some fn) (hb : fn.body = some c)
    (hcall : ∀ (args : Array Value) (w : World), (callFunc f args).run P w = .ok (.enter f args) w) (hok : codeOk T hs c = true)
    (h : AWp P T hs c (postF T fn.results.toList (Tidy H R)) (args ++ List.replicate (fn.ntmps - args.length) undef) H) : ACalls P f args H R :=
  (ACalls.intro hT hs hf hb hcall hok h).tidy

/-! ### Loops -/
theorem ALoop.inv {body : AK → List Value → List Blk → Prop} {K : AK} {ts : List Value} {H : List Blk} (I : List Value → List Blk → Prop) (m : List Value → List Blk → Nat) (h0 : I ts H)
    (round : ∀ ts H, I ts H → ∀ R : List Value → List Blk → Prop, (∀ ts' H', I ts' H' → m ts' H' < m ts H → R ts' H') → body (fun e ts' H' => match e with | .normal => R ts' H' | e => K e ts' H') ts H) : ALoop body K ts H := by
  have key : ∀ (n : Nat) (ts : List Value) (H : List Blk), I ts H → m ts H < n → rounds body K n ts H := by
    intro n
    induction n with
    | zero => intro ts H _ h; omega
    | succ n ih => intro ts H hI hm; exact round ts H hI (rounds body K n) fun ts' H' hI' hm' => ih ts' H' hI' (by omega)
  exact .of (m ts H + 1) (key _ ts H h0 (by omega))

end
end Go.Aw
