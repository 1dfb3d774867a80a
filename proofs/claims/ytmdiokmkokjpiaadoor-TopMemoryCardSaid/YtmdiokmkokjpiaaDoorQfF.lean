/-
  A processor on a memory: one cycle.
-/
import Derived.Test.YtmdiokmkokjpiaaDoorQeF
set_option linter.all false
set_option linter.unusedVariables false
set_option linter.unusedSimpArgs false
set_option linter.unnecessarySimpa false
set_option linter.unusedSectionVars false
namespace Go.Aw
variable [Base]
/-- A memory of 8192 bytes. -/
@[irreducible] def memM (m : Nat → Int) : List Value := (List.range 8192).map fun i => Value.int .u8 (m i)
theorem memM_len (m : Nat → Int) : (memM m).length = 8192 := by unfold memM; simp
theorem memM_get (m : Nat → Int) {i : Nat} (h : i < 8192) : (memM m)[i]? = some (.int .u8 (m i)) := by unfold memM; simp [h]
theorem memM_flat (m : Nat → Int) : ∀ v ∈ memM m, flatV v = true := by
  intro v hv; unfold memM at hv; obtain ⟨i, _, rfl⟩ := List.mem_map.1 hv; rfl
theorem memM_ext {l : List Value} {m : Nat → Int} (h : l.length = 8192) (hg : ∀ i, i < 8192 → l[i]? = some (.int .u8 (m i))) : l = memM m := by
  apply List.ext_getElem?
  intro i
  by_cases hi : i < 8192
  · rw [hg i hi, memM_get m hi]
  · rw [List.getElem?_eq_none (by omega), List.getElem?_eq_none (by rw [memM_len]; omega)]
def upd (m : Nat → Int) (o : Nat) (v : Int) : Nat → Int := fun i => if i = o then v else m i
theorem upd_same (m : Nat → Int) (o : Nat) (v : Int) : upd m o v o = v := if_pos rfl
theorem upd_other (m : Nat → Int) {o i : Nat} (v : Int) (h : i ≠ o) : upd m o v i = m i := if_neg h
def updL (m : Nat → Int) (o : Nat) : List Int → Nat → Int
  | [] => m
  | v :: l => upd (updL m (o + 1) l) o v
theorem updL_get : ∀ (l : List Int) (m : Nat → Int) (o i : Nat), updL m o l i = if h : o ≤ i ∧ i - o < l.length then l[i - o]'h.2 else m i
  | [], m, o, i => by simp [updL]
  | v :: l, m, o, i => by
    show upd (updL m (o + 1) l) o v i = _
    by_cases e : i = o
    · subst e; rw [upd_same]; simp
    · rw [upd_other _ _ e, updL_get l m (o + 1) i]
      by_cases h : o + 1 ≤ i ∧ i - (o + 1) < l.length
      · rw [dif_pos h, dif_pos ⟨by omega, by simp; omega⟩]
        have e2 : i - o = (i - (o + 1)) + 1 := by omega
        simp [e2]
      · rw [dif_neg h, dif_neg (by simp; omega)]
theorem getF_mem {m : Nat → Int} {n o : Nat} {k : Value → Prop} (hn : n = o) (ho : o < 8192) (hk : k (.int .u8 (m o))) : getF (memM m) n k := by
  subst hn; exact getF_of (memM_get m ho) hk
theorem putF_memL {m : Nat → Int} {n o : Nat} (l : List Int) {k : List Value → Prop} (hn : n = o) (ho : o + l.length ≤ 8192) (hk : k (memM (updL m o l))) : putF (memM m) n (l.map (Value.int .u8)) k := by
  subst hn
  refine putF_of (by rw [memM_len]; simpa using ho) ?_
  have e : lay (memM m) n (l.map (Value.int .u8)) = memM (updL m n l) := by
    refine memM_ext (by rw [lay_length (by rw [memM_len]; simpa using ho), memM_len]) fun i hi => ?_
    unfold lay
    rw [updL_get]
    by_cases h : n ≤ i ∧ i - n < l.length
    · rw [dif_pos h, List.append_assoc, List.getElem?_append_right (by rw [List.length_take, memM_len]; omega), List.length_take, memM_len, Nat.min_eq_left (by omega), List.getElem?_append_left (by simp; omega), List.getElem?_map, List.getElem?_eq_getElem h.2]; rfl
    · rw [dif_neg h]
      by_cases h2 : i < n
      · rw [List.append_assoc, List.getElem?_append_left (by rw [List.length_take, memM_len]; omega), List.getElem?_take_of_lt h2, memM_get m hi]
      · rw [List.getElem?_append_right (by rw [List.length_append, List.length_take, memM_len, List.length_map]; omega), List.length_append, List.length_take, memM_len, Nat.min_eq_left (by omega), List.getElem?_drop, List.length_map,
          show n + l.length + (i - (n + l.length)) = i by omega, memM_get m hi]
  rw [e]; exact hk
theorem putF_mem {m : Nat → Int} {n o : Nat} {v : Int} {k : List Value → Prop} (hn : n = o) (ho : o < 8192) (hk : k (memM (upd m o v))) : putF (memM m) n [.int .u8 v] k :=
  putF_memL [v] hn (Nat.succ_le_of_lt ho) hk
theorem repl_mem {c : Nat} (h : c = 8192) : repl c (.int .u8 0) = memM fun _ => 0 := by
  subst h
  unfold repl
  refine memM_ext List.length_replicate fun i hi => ?_
  rw [List.getElem?_replicate, if_pos hi]
theorem renL_mem {τ : List Nat} {m : Nat → Int} {k : List Value → Prop} (hk : k (memM m)) : renL (renV 6 τ) (memM m) k := renL_flat (memM_flat m) hk
theorem flat_bdv {c : List Value} (h : ∀ v ∈ c, flatV v = true) (n k : Nat) : c.all (bdv (n + 1) k) = true := by
  refine List.all_eq_true.2 fun v hv => ?_
  have := h v hv
  cases v <;> first | rfl | (simp [flatV] at this)
end Go.Aw
namespace Go.Proofs
open Go.Aw
variable [Base]
set_option maxRecDepth 100000
set_option maxHeartbeats 8000000
abbrev memB (m : Nat → Int) : Blk := .cells (memM m) 5
/-- One cycle: it asked for this, and went on to that. -/
def FlOk (c : List Value) (m : Nat → Int) (a : Int) (w : Bool) (d : Int) (c2 : List Value) (m2 : Nat → Int) : Prop :=
  ACalls Tryd.prog 9 [.pointer (some ⟨0, 0, none⟩), .slice (some ⟨1, 0, none⟩) 8192 8192] [.cells c 60, memB m] fun r H => r = .agg #[.int .u16 a, .bool w, .int .u8 d] ∧ H = [.cells c2 60, memB m2]
theorem fl_rd {c c2 : List Value} {m : Nat → Int} {a d : Int} (hc : ∀ v ∈ c, flatV v = true) (hc2 : ∀ v ∈ c2, flatV v = true) (h0 : 0 ≤ a) (h1 : a < 8192) (hP : PiOk c a false d) (hC : CkOk (m a.toNat) c c2) : FlOk c m a false d c2 m := by
  have ht : a.tmod 8192 = a := Int.tmod_eq_of_lt h0 h1
  have hlt : a.toNat < 8192 := by omega
  refine ACalls.code tabOk h9 Tryd.func9 Tryd.call9 ok9 ?_
  conv => whnf
  refine ACalls.useE (hP) [0] rfl (by (conv => whnf); refine renL_flat hc ?_; (conv => whnf); try rfl) (by (conv => whnf); try rfl) ?_
  conv => whnf
  refine renL_flat hc ?_
  conv => whnf
  rw [ht]
  conv => whnf
  refine Req.of ?_ ?_
  · (simp; omega)
  conv => whnf
  refine getF_mem (o := a.toNat) (by show 0 + a.toNat * 1 = _; omega) hlt ?_
  conv => whnf
  refine ACalls.useE (hC) [0] rfl (by (conv => whnf); refine renL_flat hc ?_; (conv => whnf); try rfl) (by (conv => whnf); try rfl) ?_
  conv => whnf
  refine renL_flat hc2 ?_
  conv => whnf
  refine Req.of ?_ ?_
  · exact flat_bdv hc2 _ _
  conv => whnf
  refine Req.of ?_ ?_
  · exact flat_bdv (memM_flat _) _ _
  conv => whnf
  exact ⟨rfl, rfl⟩
theorem fl_wr {c c2 : List Value} {m : Nat → Int} {a d : Int} (hc : ∀ v ∈ c, flatV v = true) (hc2 : ∀ v ∈ c2, flatV v = true) (h0 : 0 ≤ a) (h1 : a < 8192) (hP : PiOk c a true d) (hC : CkOk (m a.toNat) c c2) : FlOk c m a true d c2 (upd m a.toNat d) := by
  have ht : a.tmod 8192 = a := Int.tmod_eq_of_lt h0 h1
  have hlt : a.toNat < 8192 := by omega
  refine ACalls.code tabOk h9 Tryd.func9 Tryd.call9 ok9 ?_
  conv => whnf
  refine ACalls.useE (hP) [0] rfl (by (conv => whnf); refine renL_flat hc ?_; (conv => whnf); try rfl) (by (conv => whnf); try rfl) ?_
  conv => whnf
  refine renL_flat hc ?_
  conv => whnf
  rw [ht]
  conv => whnf
  refine Req.of ?_ ?_
  · (simp; omega)
  conv => whnf
  refine getF_mem (o := a.toNat) (by show 0 + a.toNat * 1 = _; omega) hlt ?_
  conv => whnf
  rw [ht]
  conv => whnf
  refine Req.of ?_ ?_
  · (simp; omega)
  conv => whnf
  refine putF_mem (o := a.toNat) (by show 0 + a.toNat * 1 = _; omega) hlt ?_
  conv => whnf
  refine ACalls.useE (hC) [0] rfl (by (conv => whnf); refine renL_flat hc ?_; (conv => whnf); try rfl) (by (conv => whnf); try rfl) ?_
  conv => whnf
  refine renL_flat hc2 ?_
  conv => whnf
  refine Req.of ?_ ?_
  · exact flat_bdv hc2 _ _
  conv => whnf
  refine Req.of ?_ ?_
  · exact flat_bdv (memM_flat _) _ _
  conv => whnf
  exact ⟨rfl, rfl⟩
end Go.Proofs
