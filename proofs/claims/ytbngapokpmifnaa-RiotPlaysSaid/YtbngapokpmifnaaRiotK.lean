/-
  The cells of a struct with 128 bytes in it, kept as one word.
-/
import Derived.Test.YtbngapokpmifnaaTimercF
import Derived.Test.YtbngapokpmifnaaPortcF
import Derived.Test.YtbngapokpmifnaaCore28
set_option linter.all false
set_option linter.unusedVariables false
set_option linter.unusedSimpArgs false
set_option linter.unnecessarySimpa false
namespace Go.Proofs
open Go.Aw

/-- 128 bytes. (A list that nobody can unfold: what is known of it is said here.) -/
structure Ram (L : List Value) : Prop where
  len : L.length = 128
  byte : ∀ j, j < 128 → ∃ x : Int, L[j]? = some (.int .u8 x) ∧ 0 ≤ x ∧ x ≤ 255
/-- A byte of them. -/
@[irreducible] def rd (L : List Value) (j : Nat) : Int := match L[j]? with | some (.int _ x) => x | _ => 0
/-- 128 bytes and four more cells. -/
@[irreducible] def riotC (L : List Value) (p q c e : Value) : List Value := L ++ [p, q, c, e]
/-- One byte written. -/
@[irreducible] def wr (L : List Value) (j : Nat) (x : Int) : List Value := L.set j (.int .u8 x)
variable {L : List Value} {p q c e : Value}
theorem Ram.at (h : Ram L) {j : Nat} (hj : j < 128) : L[j]? = some (.int .u8 (rd L j)) := by
  obtain ⟨x, hx, _⟩ := h.byte j hj
  unfold rd
  rw [hx]
theorem Ram.rd_le (h : Ram L) {j : Nat} (hj : j < 128) : 0 ≤ rd L j ∧ rd L j ≤ 255 := by
  obtain ⟨x, hx, h2⟩ := h.byte j hj
  unfold rd
  rw [hx]; exact h2
theorem wr_len (L : List Value) (j : Nat) (x : Int) : (wr L j x).length = L.length := by unfold wr; simp
theorem wr_at (h : Ram L) {j i : Nat} {x : Int} (hj : j < 128) (hi : i < 128) : (wr L j x)[i]? = some (.int .u8 (if i = j then x else rd L i)) := by
  unfold wr
  rw [List.getElem?_set, h.len]
  split
  · rename_i e; subst e; rw [if_pos rfl]
  · rename_i e; rw [h.at hi, if_neg (fun e2 => e e2.symm)]
theorem Ram.wr (h : Ram L) {j : Nat} {x : Int} (hj : j < 128) (hx : 0 ≤ x ∧ x ≤ 255) : Ram (wr L j x) := by
  refine ⟨by rw [wr_len, h.len], fun i hi => ⟨_, wr_at h hj hi, ?_⟩⟩
  split
  · exact hx
  · exact h.rd_le hi
theorem rd_wr (h : Ram L) {j i : Nat} {x : Int} (hj : j < 128) (hi : i < 128) : rd (wr L j x) i = if i = j then x else rd L i := by
  conv => lhs; unfold rd
  rw [wr_at h hj hi]
theorem riotC_len (h : Ram L) : (riotC L p q c e).length = 132 := by unfold riotC; simp [h.len]
theorem riotC_at (h : Ram L) {j : Nat} (hj : j < 128) : (riotC L p q c e)[j]? = some (.int .u8 (rd L j)) := by
  unfold riotC
  rw [List.getElem?_append_left (by rw [h.len]; exact hj)]; exact h.at hj
theorem riotC_hi (h : Ram L) {j : Nat} (v : Value) (hj : [p, q, c, e][j]? = some v) : (riotC L p q c e)[128 + j]? = some v := by
  unfold riotC
  rw [List.getElem?_append_right (by rw [h.len]; omega), h.len]
  simpa using hj
theorem getF_ram (h : Ram L) {j : Nat} {k : Value → Prop} (hj : j < 128) (hk : k (.int .u8 (rd L j))) : getF (riotC L p q c e) j k := getF_of (riotC_at h hj) hk
theorem getF_ramE (h : Ram L) (j' : Nat) {j : Nat} {k : Value → Prop} (he : j = j') (hj : j' < 128) (hk : k (.int .u8 (rd L j'))) : getF (riotC L p q c e) j k := by subst he; exact getF_ram h hj hk
theorem getF_p (h : Ram L) {j : Nat} {k : Value → Prop} (hj : j = 128) (hk : k p) : getF (riotC L p q c e) j k := by subst hj; exact getF_of (riotC_hi h (j := 0) p rfl) hk
theorem getF_q (h : Ram L) {j : Nat} {k : Value → Prop} (hj : j = 129) (hk : k q) : getF (riotC L p q c e) j k := by subst hj; exact getF_of (riotC_hi h (j := 1) q rfl) hk
theorem getF_c (h : Ram L) {j : Nat} {k : Value → Prop} (hj : j = 130) (hk : k c) : getF (riotC L p q c e) j k := by subst hj; exact getF_of (riotC_hi h (j := 2) c rfl) hk
theorem getF_e (h : Ram L) {j : Nat} {k : Value → Prop} (hj : j = 131) (hk : k e) : getF (riotC L p q c e) j k := by subst hj; exact getF_of (riotC_hi h (j := 3) e rfl) hk
theorem riotC_set (h : Ram L) {j : Nat} {x : Int} (hj : j < 128) : (riotC L p q c e).set j (.int .u8 x) = riotC (wr L j x) p q c e := by
  unfold riotC wr
  rw [List.set_append_left _ _ (by rw [h.len]; exact hj)]
theorem putF_ram (h : Ram L) {j o : Nat} {x : Int} {k : List Value → Prop} (ho : o = j) (hj : j < 128) (hk : k (riotC (wr L j x) p q c e)) : putF (riotC L p q c e) o [.int .u8 x] k := by
  subst ho
  exact putF_one (by rw [riotC_len h]; omega) (by rw [riotC_set h hj]; exact hk)
theorem takeF_all {l : List Value} {n : Nat} {k : List Value → Prop} (h : n = l.length) (hk : k l) : takeF l n k := takeF_of (by omega) (by rw [List.take_of_length_le (by omega)]; exact hk)
theorem takeF_ram (h : Ram L) {n : Nat} {k : List Value → Prop} (hn : n = 128) (hk : k L) : takeF L n k := takeF_all (by rw [h.len]; exact hn) hk
theorem takeF_riot (h : Ram L) {n : Nat} {k : List Value → Prop} (hn : n = 132) (hk : k (riotC L p q c e)) : takeF (riotC L p q c e) n k := takeF_all (by rw [riotC_len h]; exact hn) hk
theorem takeF_rr (h : Ram L) {n : Nat} {k : List Value → Prop} (hn : n = 128) (hk : k L) : takeF (riotC L p q c e) n k := by
  subst hn
  refine takeF_of (by rw [riotC_len h]; omega) ?_
  have : (riotC L p q c e).take 128 = L := by
    unfold riotC
    rw [List.take_append_of_le_length (by rw [h.len]; exact Nat.le_refl _), List.take_of_length_le (by rw [h.len]; exact Nat.le_refl _)]
  rw [this]; exact hk
theorem putF_whole {l vs : List Value} {k : List Value → Prop} (h : vs.length = l.length) (hk : k vs) : putF l 0 vs k := putF_of (by omega) (by
  have : lay l 0 vs = vs := by unfold lay; simp [h]
  rw [this]; exact hk)
theorem putF_whole_ram (h : Ram L) {l : List Value} {k : List Value → Prop} (hl : l.length = 128) (hk : k L) : putF l 0 L k := putF_whole (by rw [h.len, hl]) hk
theorem putF_whole_riot (h : Ram L) {l : List Value} {k : List Value → Prop} (hl : l.length = 132) (hk : k (riotC L p q c e)) : putF l 0 (riotC L p q c e) k := putF_whole (by rw [riotC_len h, hl]) hk
/-- The 128 bytes laid into a struct that has four more cells. -/
theorem putF_head (h : Ram L) {l : List Value} {k : List Value → Prop} (hl : l.drop 128 = [p, q, c, e]) (hk : k (riotC L p q c e)) : putF l 0 L k := putF_of (by
    have := congrArg List.length hl
    simp at this
    rw [h.len]; omega) (by
  have : lay l 0 L = riotC L p q c e := by unfold lay riotC; rw [h.len, Nat.zero_add, hl]; simp
  rw [this]; exact hk)
theorem riotC_lay (h : Ram L) (j : Nat) (vs : List Value) {p' q' c' e' : Value} (hl : lay [p, q, c, e] j vs = [p', q', c', e']) : lay (riotC L p q c e) (128 + j) vs = riotC L p' q' c' e' := by
  unfold riotC
  rw [← hl]
  unfold lay
  rw [List.take_append, List.drop_append, h.len, List.take_of_length_le (by rw [h.len]; omega), List.drop_eq_nil_of_le (by rw [h.len]; omega), Nat.add_sub_cancel_left, show 128 + j + vs.length - 128 = j + vs.length by omega]
  simp
theorem putF_pq (h : Ram L) {o : Nat} {p' q' : Value} {k : List Value → Prop} (ho : o = 128) (hk : k (riotC L p' q' c e)) : putF (riotC L p q c e) o [p', q'] k := by
  subst ho
  exact putF_of (by rw [riotC_len h]; simp) (by rw [riotC_lay h 0 [p', q'] (p' := p') (q' := q') (c' := c) (e' := e) rfl]; exact hk)
theorem putF_c (h : Ram L) {o : Nat} {c' : Value} {k : List Value → Prop} (ho : o = 130) (hk : k (riotC L p q c' e)) : putF (riotC L p q c e) o [c'] k := by
  subst ho
  exact putF_of (by rw [riotC_len h]; simp) (by rw [riotC_lay h 2 [c'] (p' := p) (q' := q) (c' := c') (e' := e) rfl]; exact hk)
theorem putF_e (h : Ram L) {o : Nat} {e' : Value} {k : List Value → Prop} (ho : o = 131) (hk : k (riotC L p q c e')) : putF (riotC L p q c e) o [e'] k := by
  subst ho
  exact putF_of (by rw [riotC_len h]; simp) (by rw [riotC_lay h 3 [e'] (p' := p) (q' := q) (c' := c) (e' := e') rfl]; exact hk)
theorem Ram.flat (h : Ram L) : ∀ v ∈ L, flatV v = true := by
  intro v hv
  obtain ⟨i, hi⟩ := List.mem_iff_getElem?.1 hv
  have hl : i < 128 := by have := (List.getElem?_eq_some_iff.1 hi).1; rwa [h.len] at this
  rw [h.at hl] at hi
  cases hi; rfl
theorem renL_ram (h : Ram L) {τ : List Nat} {k : List Value → Prop} (hk : k L) : renL (renV 6 τ) L k := renL_flat h.flat hk
theorem renL_append {f : Value → VK → Prop} : ∀ {l m : List Value} {k : List Value → Prop}, renL f (l ++ m) k = renL f l fun a => renL f m fun b => k (a ++ b)
  | [], m, k => rfl
  | v :: l, m, k => by
    show f v _ = f v _
    congr 1
    funext v'
    exact renL_append
theorem renL_riot (hR : Ram L) {τ : List Nat} {k : List Value → Prop} {p' q' c' e' : Value} (h : renL (renV 6 τ) [p, q, c, e] fun l => l = [p', q', c', e']) (hk : k (riotC L p' q' c' e')) : renL (renV 6 τ) (riotC L p q c e) k := by
  have e1 : renL (renV 6 τ) (riotC L p q c e) k = renL (renV 6 τ) (L ++ [p, q, c, e]) k := by unfold riotC; rfl
  rw [e1, renL_append]
  refine renL_ram hR ?_
  have mono : ∀ {l : List Value} {k1 k2 : List Value → Prop}, (∀ x, k1 x → k2 x) → renL (renV 6 τ) l k1 → renL (renV 6 τ) l k2 := by
    have mv : ∀ (d : Nat) (v : Value) (k1 k2 : VK), (∀ x, k1 x → k2 x) → renV d τ v k1 → renV d τ v k2 := by
      intro d
      induction d with
      | zero => intro v k1 k2 _ h; exact h.elim
      | succ d ih =>
        have ml : ∀ (l : List Value) (k1 k2 : List Value → Prop), (∀ x, k1 x → k2 x) → renL (renV d τ) l k1 → renL (renV d τ) l k2 := by
          intro l
          induction l with
          | nil => intro k1 k2 hk h; exact hk _ h
          | cons a l ihl => intro k1 k2 hk h; exact ih a _ _ (fun x hx => ihl _ _ (fun y hy => hk _ hy) hx) h
        intro v k1 k2 hk h
        unfold renV at h ⊢
        split at h
        · exact hk _ h
        · exact hk _ h
        · exact hk _ h
        · exact hk _ h
        · exact hk _ h
        · exact hk _ h
        · exact hk _ h
        · obtain ⟨j, hj, h⟩ := getF_iff h
          exact getF_of hj (by unfold nF at h ⊢; split at h <;> exact hk _ h)
        · obtain ⟨j, hj, h⟩ := getF_iff h
          exact getF_of hj (by unfold nF at h ⊢; split at h <;> exact hk _ h)
        · exact ml _ _ _ (fun x hx => hk _ hx) h
        · exact ml _ _ _ (fun x hx => hk _ hx) h
        · exact ml _ _ _ (fun x hx => ml _ _ _ (fun y hy => hk _ hy) hx) h
        · exact ih _ _ _ (fun x hx => hk _ hx) h
        · exact h.elim
    intro l
    induction l with
    | nil => intro k1 k2 hk h; exact hk _ h
    | cons a l ihl => intro k1 k2 hk h; exact mv 6 a _ _ (fun x hx => ihl (fun y hy => hk _ hy) hx) h
  refine mono (fun x hx => ?_) h
  subst hx
  have e2 : L ++ [p', q', c', e'] = riotC L p' q' c' e' := by unfold riotC; rfl
  rw [e2]; exact hk
theorem Ram.all (hR : Ram L) {f : Value → Bool} (h : ∀ x : Int, f (.int .u8 x) = true) : L.all f = true := by
  rw [List.all_eq_true]
  intro v hv
  obtain ⟨i, hi⟩ := List.mem_iff_getElem?.1 hv
  have hl : i < 128 := by have := (List.getElem?_eq_some_iff.1 hi).1; rwa [hR.len] at this
  rw [hR.at hl] at hi
  cases hi; exact h _
theorem riotC_all (hR : Ram L) {f : Value → Bool} (h : ∀ x : Int, f (.int .u8 x) = true) (h2 : [p, q, c, e].all f = true) : (riotC L p q c e).all f = true := by
  unfold riotC
  rw [List.all_append, hR.all h, h2]; rfl
theorem Ram.zero : Ram (List.replicate 128 (Value.int .u8 0)) := by
  refine ⟨by simp, fun j hj => ⟨0, ?_, by decide, by decide⟩⟩
  rw [List.getElem?_replicate, if_pos hj]
end Go.Proofs
