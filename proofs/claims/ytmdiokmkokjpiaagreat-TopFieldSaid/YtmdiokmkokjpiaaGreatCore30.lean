/-
  The cells of a struct with a long row in it, kept as one word.
-/
import Derived.Test.YtmdiokmkokjpiaaGreatCore29
set_option linter.all false
set_option linter.unusedVariables false
set_option linter.unusedSimpArgs false
set_option linter.unnecessarySimpa false
namespace Go.Aw
/-- Cells, a row that nobody unfolds, more cells. -/
@[irreducible] def recC (A L R : List Value) : List Value :=
  match L with
  | [] => A ++ R
  | x :: l => A ++ (x :: l ++ R)
theorem recC_eq (A L R : List Value) : recC A L R = A ++ (L ++ R) := by
  unfold recC
  cases L <;> rfl
/-! The same as 'getF', 'dropF', 'takeF', 'putF', under other names. -/
def getR {α : Type} : List α → Nat → (α → Prop) → Prop
  | [], _, _ => False
  | a :: _, 0, k => k a
  | _ :: l, i + 1, k => getR l i k
def dropR {α : Type} : List α → Nat → (List α → Prop) → Prop
  | l, 0, k => k l
  | [], _ + 1, _ => False
  | _ :: l, n + 1, k => dropR l n k
def takeR {α : Type} : List α → Nat → (List α → Prop) → Prop
  | _, 0, k => k []
  | [], _ + 1, _ => False
  | a :: l, n + 1, k => takeR l n fun l' => k (a :: l')
def putR {α : Type} : List α → Nat → List α → (List α → Prop) → Prop
  | l, 0, [], k => k l
  | [], 0, _ :: _, _ => False
  | _ :: l, 0, v :: vs, k => putR l 0 vs fun l' => k (v :: l')
  | [], _ + 1, _, _ => False
  | a :: l, o + 1, vs, k => putR l o vs fun l' => k (a :: l')
theorem getR_eq {α : Type} : ∀ (l : List α) (i : Nat) (k : α → Prop), getR l i k = getF l i k
  | [], _, _ => rfl
  | _ :: _, 0, _ => rfl
  | _ :: l, i + 1, k => getR_eq l i k
theorem dropR_eq {α : Type} : ∀ (l : List α) (n : Nat) (k : List α → Prop), dropR l n k = dropF l n k
  | [], 0, _ => rfl
  | _ :: _, 0, _ => rfl
  | [], _ + 1, _ => rfl
  | _ :: l, n + 1, k => dropR_eq l n k
theorem takeR_eq {α : Type} : ∀ (l : List α) (n : Nat) (k : List α → Prop), takeR l n k = takeF l n k
  | [], 0, _ => rfl
  | _ :: _, 0, _ => rfl
  | [], _ + 1, _ => rfl
  | a :: l, n + 1, k => takeR_eq l n _
theorem putR_eq {α : Type} : ∀ (l : List α) (o : Nat) (vs : List α) (k : List α → Prop), putR l o vs k = putF l o vs k
  | [], 0, [], _ => rfl
  | _ :: _, 0, [], _ => rfl
  | [], 0, _ :: _, _ => rfl
  | _ :: l, 0, v :: vs, k => putR_eq l 0 vs _
  | [], _ + 1, _, _ => rfl
  | a :: l, o + 1, vs, k => putR_eq l o vs _
section
variable {A L R : List Value} {n o m : Nat} {k : List Value → Prop} {kv : Value → Prop}
theorem recC_len (hL : L.length = n) : (recC A L R).length = A.length + n + R.length := by simp only [recC_eq]; simp [hL]; omega
theorem getF_pre (_h : Nat.blt o A.length = true) (hk : getR A o kv) : getF (recC A L R) o kv := by
  rw [getR_eq] at hk
  obtain ⟨v, hv, hk⟩ := getF_iff hk
  refine getF_of (v := v) ?_ hk
  rw [recC_eq, List.getElem?_append_left (List.getElem?_eq_some_iff.1 hv).1]; exact hv
theorem getF_mid (hL : L.length = n) (j : Nat) (v : Value) (ho : o = A.length + j) (hj : j < n) (hv : L[j]? = some v) (hk : kv v) : getF (recC A L R) o kv := by
  subst ho
  refine getF_of (v := v) ?_ hk
  rw [recC_eq, List.getElem?_append_right (by omega), Nat.add_sub_cancel_left, List.getElem?_append_left (by omega)]; exact hv
theorem getF_suf (hL : L.length = n) (j : Nat) (ho : o = A.length + n + j) (hk : getR R j kv) : getF (recC A L R) o kv := by
  subst ho
  rw [getR_eq] at hk
  obtain ⟨v, hv, hk⟩ := getF_iff hk
  refine getF_of (v := v) ?_ hk
  rw [recC_eq, List.getElem?_append_right (by omega), List.getElem?_append_right (by omega), hL, show A.length + n + j - A.length - n = j by omega]; exact hv
theorem dropF_pre (h : Nat.ble o A.length = true) (hk : dropR A o fun A' => k (recC A' L R)) : dropF (recC A L R) o k := by
  rw [dropR_eq] at hk
  have h := Nat.le_of_ble_eq_true h
  have hk := (dropF_iff hk).2
  refine dropF_of (by simp only [recC_eq]; simp; omega) ?_
  have e : (recC A L R).drop o = recC (A.drop o) L R := by rw [recC_eq, recC_eq, List.drop_append_of_le_length h]
  rw [e]; exact hk
theorem dropF_suf (hL : L.length = n) (j : Nat) (ho : o = A.length + n + j) (hk : dropR R j k) : dropF (recC A L R) o k := by
  subst ho
  rw [dropR_eq] at hk
  obtain ⟨h1, hk⟩ := dropF_iff hk
  refine dropF_of (by rw [recC_len hL]; omega) ?_
  have e : (recC A L R).drop (A.length + n + j) = R.drop j := by
    simp only [recC_eq]
    rw [List.drop_append, List.drop_eq_nil_of_le (by omega), List.nil_append, List.drop_append, List.drop_eq_nil_of_le (by omega), List.nil_append, hL, show A.length + n + j - A.length - n = j by omega]
  rw [e]; exact hk
theorem takeF_mid (hL : L.length = n) (hm : m = n) (hk : k L) : takeF (recC [] L R) m k := by
  subst hm
  refine takeF_of (by rw [recC_len hL]; omega) ?_
  have e : (recC [] L R).take m = L := by
    simp only [recC_eq]
    rw [List.nil_append, List.take_append_of_le_length (by omega), List.take_of_length_le (by omega)]
  rw [e]; exact hk
theorem takeF_rec (hL : L.length = n) (hm : m = A.length + n + R.length) (hk : k (recC A L R)) : takeF (recC A L R) m k :=
  takeF_of (by rw [recC_len hL]; omega) (by rw [List.take_of_length_le (by rw [recC_len hL]; omega)]; exact hk)
theorem takeF_preR (h : Nat.ble m A.length = true) (hk : takeR A m k) : takeF (recC A L R) m k := by
  rw [takeR_eq] at hk
  have h := Nat.le_of_ble_eq_true h
  have hk := (takeF_iff hk).2
  refine takeF_of (by simp only [recC_eq]; simp; omega) ?_
  have e : (recC A L R).take m = A.take m := by simp only [recC_eq]; rw [List.take_append_of_le_length h]
  rw [e]; exact hk
theorem putF_preR {vs : List Value} (h : Nat.ble (o + vs.length) A.length = true) (hk : putR A o vs fun A' => k (recC A' L R)) : putF (recC A L R) o vs k := by
  rw [putR_eq] at hk
  have h := Nat.le_of_ble_eq_true h
  have hk := (putF_iff hk).2
  refine putF_of (by simp only [recC_eq]; simp; omega) ?_
  have e : lay (recC A L R) o vs = recC (lay A o vs) L R := by
    simp only [recC_eq]; unfold lay
    rw [List.take_append_of_le_length (by omega), List.drop_append_of_le_length h]; simp
  rw [e]; exact hk
theorem putF_sufR {vs : List Value} (hL : L.length = n) (j : Nat) (ho : o = A.length + n + j) (hk : putR R j vs fun R' => k (recC A L R')) : putF (recC A L R) o vs k := by
  subst ho
  rw [putR_eq] at hk
  obtain ⟨h1, hk⟩ := putF_iff hk
  refine putF_of (by rw [recC_len hL]; omega) ?_
  have e : lay (recC A L R) (A.length + n + j) vs = recC A L (lay R j vs) := by
    simp only [recC_eq]; unfold lay
    rw [List.take_append, List.take_append, List.drop_append, List.drop_append, List.take_of_length_le (by omega), List.take_of_length_le (l := L) (by omega), List.drop_eq_nil_of_le (as := A) (by omega), List.drop_eq_nil_of_le (as := L) (by omega), hL, show A.length + n + j - A.length - n = j by omega, show A.length + n + j + vs.length - A.length - n = j + vs.length by omega]
    simp
  rw [e]; exact hk
theorem putF_midR {vs : List Value} (hL : L.length = n) (ho : o = A.length) (hv : vs.length = n) (hk : k (recC A vs R)) : putF (recC A L R) o vs k := by
  subst ho
  refine putF_of (by rw [recC_len hL]; omega) ?_
  have e : lay (recC A L R) A.length vs = recC A vs R := by
    simp only [recC_eq]; unfold lay
    rw [List.take_append_of_le_length (Nat.le_refl _), List.take_of_length_le (Nat.le_refl _), List.drop_append, List.drop_eq_nil_of_le (by omega), List.nil_append, List.drop_append, List.drop_eq_nil_of_le (by omega), List.nil_append, hL, hv, show A.length + n - A.length - n = 0 by omega]
    simp
  rw [e]; exact hk
theorem putF_mid1 (hL : L.length = n) (j : Nat) {v : Value} (ho : o = A.length + j) (hj : j < n) (hk : k (recC A (L.set j v) R)) : putF (recC A L R) o [v] k := by
  subst ho
  refine putF_of (by rw [recC_len hL]; simp; omega) ?_
  have e : lay (recC A L R) (A.length + j) [v] = recC A (L.set j v) R := by
    simp only [recC_eq]; unfold lay
    rw [List.take_append, List.take_of_length_le (by omega), List.drop_append, List.drop_eq_nil_of_le (by omega), show A.length + j - A.length = j by omega, List.length_singleton, show A.length + j + 1 - A.length = j + 1 by omega, List.take_append_of_le_length (by omega), List.drop_append_of_le_length (by omega), List.set_eq_take_append_cons_drop, if_pos (by omega)]
    simp
  rw [e]; exact hk
theorem putF_wholeR {l : List Value} (h : (recC A L R).length = l.length) (hk : k (recC A L R)) : putF l 0 (recC A L R) k := putF_of (by omega) (by
  have : lay l 0 (recC A L R) = recC A L R := by unfold lay; simp [h]
  rw [this]; exact hk)
theorem putF_wholeRL {l : List Value} (hL : L.length = n) (h : A.length + n + R.length = l.length) (hk : k (recC A L R)) : putF l 0 (recC A L R) k := putF_wholeR (by rw [recC_len hL, h]) hk
theorem rec_fits (hL : L.length = n) (hm : A.length + n + R.length = m) (h1 : A.all one = true) (h2 : L.all one = true) (h3 : R.all one = true) : (Nat.beq (recC A L R).length m && (recC A L R).all one) = true := by
  rw [recC_len hL, hm, Nat.beq_refl, Bool.true_and]
  simp only [recC_eq]; rw [List.all_append, List.all_append, h1, h2, h3]; rfl
theorem putF_recrec {A' L' R' : List Value} (hL : L.length = n) (hL' : L'.length = n) (hA : A.length = A'.length) (hR : R.length = R'.length) (hk : k (recC A' L' R')) : putF (recC A L R) 0 (recC A' L' R') k :=
  putF_wholeRL hL' (by rw [recC_len hL, hA, hR]) hk
/-- The row laid into cells. -/
theorem putF_intoR {l A' R' : List Value} (ho : o = A'.length) (hL : L.length = n) (hl : l.take o = A') (hr : l.drop (o + n) = R') (hn : o + n ≤ l.length) (hk : k (recC A' L R')) : putF l o L k := by
  refine putF_of (by omega) ?_
  have : lay l o L = recC A' L R' := by simp only [recC_eq]; unfold lay; rw [hL, hl, hr]; simp
  rw [this]; exact hk
theorem recC_all {f : Value → Bool} (h1 : A.all f = true) (h2 : L.all f = true) (h3 : R.all f = true) : (recC A L R).all f = true := by
  simp only [recC_eq]; rw [List.all_append, List.all_append, h1, h2, h3]; rfl
end
theorem renL_appendC {f : Value → VK → Prop} : ∀ {l m : List Value} {k : List Value → Prop}, renL f (l ++ m) k = renL f l fun a => renL f m fun b => k (a ++ b)
  | [], m, k => rfl
  | v :: l, m, k => by
    show f v (fun v' => renL f (l ++ m) fun l' => k (v' :: l')) = f v fun v' => renL f l fun l' => renL f m fun b => k (v' :: (l' ++ b))
    congr 1
    funext v'
    exact renL_appendC
theorem renL_flatC {d : Nat} {τ : List Nat} {l : List Value} {k : List Value → Prop} (h : ∀ v ∈ l, flatV v = true) (hk : k l) : renL (renV (d + 1) τ) l k := by
  induction l generalizing k with
  | nil => exact hk
  | cons v l ih =>
    unfold renL
    have hv := h v (List.mem_cons_self ..)
    have : renV (d + 1) τ v (fun v' => renL (renV (d + 1) τ) l fun l' => k (v' :: l')) = renL (renV (d + 1) τ) l fun l' => k (v :: l') := by
      cases v <;> first | rfl | simp [flatV] at hv
    rw [this]
    exact ih (fun x hx => h x (List.mem_cons_of_mem _ hx)) hk
theorem renL_rec {A L R : List Value} {d : Nat} {τ : List Nat} {k : List Value → Prop} (hf : ∀ v ∈ L, flatV v = true) (hk : renL (renV (d + 1) τ) A fun A' => renL (renV (d + 1) τ) R fun R' => k (recC A' L R')) : renL (renV (d + 1) τ) (recC A L R) k := by
  have e : recC A L R = A ++ (L ++ R) := by rw [recC_eq]
  rw [e, renL_appendC]
  have e2 : (fun a => renL (renV (d + 1) τ) (L ++ R) fun b => k (a ++ b)) = fun a => renL (renV (d + 1) τ) R fun R' => k (recC a L R') := by
    funext a
    rw [renL_appendC]
    have e3 : ∀ R', k (recC a L R') = k (a ++ (L ++ R')) := fun R' => by rw [recC_eq]
    simp only [e3]
    refine propext ⟨fun h => ?_, fun h => renL_flatC hf h⟩
    obtain ⟨l', h2, h1⟩ := renL_iff (renV_iff (d + 1)) h
    have h3 : l' = L := by
      apply List.ext_getElem h1.1.symm
      intro i hi1 hi2
      have key : ∀ a b : Value, flatV a = true → VR τ a b → b = a := by
        intro a b hv hr
        cases hr <;> first | rfl | simp [flatV] at hv
      exact key _ _ (hf _ (List.getElem_mem hi2)) (h1.2 i _ _ (List.getElem?_eq_getElem hi2) (List.getElem?_eq_getElem hi1))
    rw [← h3]; exact h2
  rw [e2]; exact hk
end Go.Aw
