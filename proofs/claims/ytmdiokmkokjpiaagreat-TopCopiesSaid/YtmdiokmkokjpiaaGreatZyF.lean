/-
  Walks through the functions of the program, by contract.
-/
import Derived.Test.YtmdiokmkokjpiaaGreatZxF
set_option linter.all false
set_option linter.unusedVariables false
set_option linter.unusedSimpArgs false
set_option linter.unnecessarySimpa false
namespace Go.Proofs
open Go.Aw
set_option maxRecDepth 100000
set_option maxHeartbeats 8000000
def cpN (k i : Nat) : Nat := (cpL k).getD i 0
/-- The pixels that are wanted, ahead of the c-th dot of all copies. -/
def wF (k P : Nat) (g : Int) : Nat → Nat → Bool
  | 0, _ => false
  | c + 1, j => wF k P g c j || (graphI g false (wdN k : Nat) (c % (8 * wdN k) : Nat) && decide (j = (P + cpN k (c / (8 * wdN k)) + ldN k + c % (8 * wdN k)) % 160))
@[irreducible] def wI (k P : Nat) (g : Int) (c : Nat) (j : Nat) : Bool := wF k P g c j
theorem wI_zero (k P : Nat) (g : Int) : wI k P g 0 = fun _ => false := by funext j; unfold wI; rfl
theorem wI_f {k P : Nat} {g : Int} {c i d m l p : Nat} (hm : 8 * wdN k = m) (hc : c = m * i + d) (hd : d < m) (hp : cpN k i = p) (hl : ldN k = l) (hg : graphI g false (wdN k : Nat) (d : Nat) = false) : wI k P g (c + 1) = wI k P g c := by
  have h1 : (m * i + d) % m = d := by rw [Nat.mul_add_mod]; exact Nat.mod_eq_of_lt hd
  funext j
  unfold wI
  rw [wF, hm, hc, h1, hg, Bool.false_and, Bool.or_false]
theorem wI_t {k P : Nat} {g : Int} {c i d m l p : Nat} (hm : 8 * wdN k = m) (hc : c = m * i + d) (hd : d < m) (hp : cpN k i = p) (hl : ldN k = l) (hg : graphI g false (wdN k : Nat) (d : Nat) = true) : wI k P g (c + 1) = fun j => wI k P g c j || decide (j = (P + p + l + d) % 160) := by
  have h1 : (m * i + d) % m = d := by rw [Nat.mul_add_mod]; exact Nat.mod_eq_of_lt hd
  have h2 : (m * i + d) / m = i := by rw [Nat.mul_add_div (by omega), Nat.div_eq_of_lt hd, Nat.add_zero]
  funext j
  unfold wI
  rw [wF, hm, hc, h1, h2, hg, hp, hl, Bool.true_and]
theorem renL_arr {q : IntKind} {f : Nat → Int} {n d : Nat} {τ : List Nat} {A : Array Value} {k : List Value → Prop} (hA : A.toList = rowL q f n) (hk : k A.toList) : renL (renV (d + 1) τ) A.toList k := by
  rw [hA] at hk ⊢
  exact renL_rowL hk
theorem arr_fits {q : IntKind} {f : Nat → Int} {n m : Nat} {A : Array Value} (hA : A.toList = rowL q f n) (hm : m = n) (h1 : ∀ x : Int, one (.int q x) = true) : (Nat.beq A.toList.length m && A.toList.all one) = true := by
  rw [hA]; exact row_fits q f n m hm h1
theorem putF_arr {q : IntKind} {f : Nat → Int} {n : Nat} {A : Array Value} (hA : A.toList = rowL q f n) {l : List Value} {k : List Value → Prop} (hl : l.length = n) (hk : k (rowL q f n)) : putF l 0 A.toList.toArray.toList k := by
  show putF l 0 A.toList k
  rw [hA]; exact putF_rowall hl hk
/-- A row of truths. -/
@[irreducible] def rowW (f : Nat → Bool) : List Value := (List.range 160).map fun j => .bool (f j)
theorem rowW_len (f : Nat → Bool) : (rowW f).length = 160 := by unfold rowW; simp
theorem rowW_at {f : Nat → Bool} {j : Nat} (hj : j < 160) : (rowW f)[j]? = some (.bool (f j)) := by
  unfold rowW
  rw [List.getElem?_map, List.getElem?_range hj]; rfl
theorem rowW_zero : List.replicate 160 (.bool false) = rowW fun _ => false := by
  unfold rowW
  apply List.ext_getElem?
  intro j
  by_cases hn : j < 160
  · rw [List.getElem?_replicate, if_pos hn, List.getElem?_map, List.getElem?_range hn]; rfl
  · rw [List.getElem?_replicate, if_neg hn, List.getElem?_eq_none (by simp; omega)]
theorem rowW_all {f : Nat → Bool} {p : Value → Bool} (hp : ∀ b : Bool, p (.bool b) = true) : (rowW f).all p = true := by
  unfold rowW
  rw [List.all_map, List.all_eq_true]
  intro j _; exact hp _
theorem getF_rowW {f : Nat → Bool} {o : Nat} (j : Nat) (ho : o = j) (hj : j < 160) {k : Value → Prop} (hk : k (.bool (f j))) : getF (rowW f) o k := by
  subst ho; exact getF_of (rowW_at hj) hk
theorem putF_rowW {f f' : Nat → Bool} {o : Nat} (i : Nat) (ho : o = i) (hi : i < 160) (hf : f' = fun j => f j || decide (j = i)) {k : List Value → Prop} (hk : k (rowW f')) : putF (rowW f) o [.bool true] k := by
  subst ho
  refine putF_one (by rw [rowW_len]; exact hi) ?_
  have e : (rowW f).set o (.bool true) = rowW f' := by
    apply List.ext_getElem?
    intro j
    by_cases hj : j < 160
    · rw [rowW_at hj, List.getElem?_set, hf]
      by_cases h : o = j
      · subst h; simp [rowW_len, hi]
      · rw [if_neg h, rowW_at hj]; simp; omega
    · rw [List.getElem?_eq_none (by rw [List.length_set, rowW_len]; omega), List.getElem?_eq_none (by rw [rowW_len]; omega)]
  rw [e]; exact hk
theorem tcop_0 (g u y : Int) (hg : 0 ≤ g ∧ g ≤ 255) (hk : (IntKind.i64.wrap u).tmod 8 = 0) (P : Nat) (hP : P < 160) (hy : (IntKind.i64.wrap y).tmod 160 = (P : Int))
    (a0 a1 a2 a3 a4 a5 : TS) (s0 : a0.Top) (s1 : a1.Top) (s2 : a2.Top) (s3 : a3.Top) (s4 : a4.Top) (s5 : a5.Top) (F : Nat → Int) (A : Array Value) (hA : A.toList = rowL .u8 F 160)
    (k0 : ACalls Tryz.prog 7 [.int .i64 ((68 + P : Nat) : Int)] [] fun v H => v = .pointer (some ⟨0, 0, none⟩) ∧ H = tsH a0)
    (k1 : ACalls Tryz.prog 8 [.pointer (some ⟨0, 0, none⟩), .int .u16 16, .int .u8 0] (tsH a0) fun r H => r = .tuple #[] ∧ H = tsH a1)
    (k2 : ACalls Tryz.prog 8 [.pointer (some ⟨0, 0, none⟩), .int .u16 4, .int .u8 u] (tsH a1) fun r H => r = .tuple #[] ∧ H = tsH a2)
    (k3 : ACalls Tryz.prog 8 [.pointer (some ⟨0, 0, none⟩), .int .u16 6, .int .u8 68] (tsH a2) fun r H => r = .tuple #[] ∧ H = tsH a3)
    (k4 : ACalls Tryz.prog 8 [.pointer (some ⟨0, 0, none⟩), .int .u16 27, .int .u8 g] (tsH a3) fun r H => r = .tuple #[] ∧ H = tsH a4)
    (k5 : ACalls Tryz.prog 9 [.pointer (some ⟨0, 0, none⟩)] (tsH (stpI 456 a4)) fun v H => v = .agg A ∧ H = tsH a5)
    (hF : ∀ x, x < 160 → F x = if wI 0 P g 8 x then 68 else 0) :
    ACalls Tryz.prog 4 [.int .u8 g, .int .u8 u, .int .u8 y] [] fun v _ => v = .bool true := by
  have hL0 := s0.L
  have hL1 := s1.L
  have hL2 := s2.L
  have hL3 := s3.L
  have hL4 := s4.L
  have hL5 := s5.L
  have hnew : (IntKind.i64.wrap (68 + (IntKind.i64.wrap y).tmod 160)).tmod 228 = ((68 + P : Nat) : Int) := by
    rw [hy, wrap64 (by omega) (by omega), Int.tmod_eq_emod_of_nonneg (by omega)]; omega
  refine ACalls.code tabOk h4 Tryz.func4 Tryz.call4 ok4 ?_
  conv => whnf
  refine ACalls.useE (t_draws) [] rfl (by (conv => whnf); first | done | rfl | (refine renL_rec hL0.flat ?_; (conv => whnf); first | done | rfl) | (refine renL_rec hL1.flat ?_; (conv => whnf); first | done | rfl) | (refine renL_rec hL2.flat ?_; (conv => whnf); first | done | rfl) | (refine renL_rec hL3.flat ?_; (conv => whnf); first | done | rfl) | (refine renL_rec hL4.flat ?_; (conv => whnf); first | done | rfl)) (by (conv => whnf); try rfl) ?_
  conv => whnf
  rw [hnew]
  refine ACalls.useE (k0) [] rfl (by (conv => whnf); first | done | rfl | (refine renL_rec hL0.flat ?_; (conv => whnf); first | done | rfl) | (refine renL_rec hL1.flat ?_; (conv => whnf); first | done | rfl) | (refine renL_rec hL2.flat ?_; (conv => whnf); first | done | rfl) | (refine renL_rec hL3.flat ?_; (conv => whnf); first | done | rfl) | (refine renL_rec hL4.flat ?_; (conv => whnf); first | done | rfl)) (by (conv => whnf); try rfl) ?_
  conv => whnf
  refine renL_rec hL0.flat ?_
  conv => whnf
  refine ACalls.useE (k1) [0, 1, 2, 3, 4, 5, 6, 7, 8, 9, 10, 11, 12, 13, 14, 15, 16, 17, 18, 19, 20, 21, 22, 23, 24, 25, 26, 27, 28, 29, 30, 31, 32, 33, 34, 35, 36, 37, 38, 39] rfl (by (conv => whnf); first | done | rfl | (refine renL_rec hL0.flat ?_; (conv => whnf); first | done | rfl) | (refine renL_rec hL1.flat ?_; (conv => whnf); first | done | rfl) | (refine renL_rec hL2.flat ?_; (conv => whnf); first | done | rfl) | (refine renL_rec hL3.flat ?_; (conv => whnf); first | done | rfl) | (refine renL_rec hL4.flat ?_; (conv => whnf); first | done | rfl)) (by (conv => whnf); try rfl) ?_
  conv => whnf
  refine renL_rec hL1.flat ?_
  conv => whnf
  refine ACalls.useE (k2) [0, 1, 2, 3, 4, 5, 6, 7, 8, 9, 10, 11, 12, 13, 14, 15, 16, 17, 18, 19, 20, 21, 22, 23, 24, 25, 26, 27, 28, 29, 30, 31, 32, 33, 34, 35, 36, 37, 38, 39] rfl (by (conv => whnf); first | done | rfl | (refine renL_rec hL0.flat ?_; (conv => whnf); first | done | rfl) | (refine renL_rec hL1.flat ?_; (conv => whnf); first | done | rfl) | (refine renL_rec hL2.flat ?_; (conv => whnf); first | done | rfl) | (refine renL_rec hL3.flat ?_; (conv => whnf); first | done | rfl) | (refine renL_rec hL4.flat ?_; (conv => whnf); first | done | rfl)) (by (conv => whnf); try rfl) ?_
  conv => whnf
  refine renL_rec hL2.flat ?_
  conv => whnf
  refine ACalls.useE (k3) [0, 1, 2, 3, 4, 5, 6, 7, 8, 9, 10, 11, 12, 13, 14, 15, 16, 17, 18, 19, 20, 21, 22, 23, 24, 25, 26, 27, 28, 29, 30, 31, 32, 33, 34, 35, 36, 37, 38, 39] rfl (by (conv => whnf); first | done | rfl | (refine renL_rec hL0.flat ?_; (conv => whnf); first | done | rfl) | (refine renL_rec hL1.flat ?_; (conv => whnf); first | done | rfl) | (refine renL_rec hL2.flat ?_; (conv => whnf); first | done | rfl) | (refine renL_rec hL3.flat ?_; (conv => whnf); first | done | rfl) | (refine renL_rec hL4.flat ?_; (conv => whnf); first | done | rfl)) (by (conv => whnf); try rfl) ?_
  conv => whnf
  refine renL_rec hL3.flat ?_
  conv => whnf
  refine ACalls.useE (k4) [0, 1, 2, 3, 4, 5, 6, 7, 8, 9, 10, 11, 12, 13, 14, 15, 16, 17, 18, 19, 20, 21, 22, 23, 24, 25, 26, 27, 28, 29, 30, 31, 32, 33, 34, 35, 36, 37, 38, 39] rfl (by (conv => whnf); first | done | rfl | (refine renL_rec hL0.flat ?_; (conv => whnf); first | done | rfl) | (refine renL_rec hL1.flat ?_; (conv => whnf); first | done | rfl) | (refine renL_rec hL2.flat ?_; (conv => whnf); first | done | rfl) | (refine renL_rec hL3.flat ?_; (conv => whnf); first | done | rfl) | (refine renL_rec hL4.flat ?_; (conv => whnf); first | done | rfl)) (by (conv => whnf); try rfl) ?_
  conv => whnf
  refine renL_rec hL4.flat ?_
  conv => whnf
  refine ALoop.fd (σ := Nat) (fun i => [.int .u8 g, .int .u8 u, .int .u8 y, .chan none, .chan none, .chan none, .chan none, .pointer (some ⟨0, 0, none⟩), .int .i64 i, .chan none, .chan none, .chan none, .chan none, .chan none, .chan none, .chan none, .chan none, .chan none, .chan none, .chan none, .chan none, .chan none, .chan none, .chan none, .chan none, .chan none, .chan none, .chan none, .chan none, .chan none, .chan none, .chan none, .chan none, .chan none, .chan none, .chan none, .chan none, .chan none, .chan none, .chan none, .chan none, .chan none, .chan none, .chan none, .chan none, .chan none, .chan none, .chan none, .chan none, .chan none, .chan none, .chan none, .chan none, .chan none, .chan none, .chan none, .chan none, .chan none, .chan none, .chan none, .chan none, .chan none, .chan none, .chan none, .chan none, .chan none, .chan none, .chan none, .chan none, .chan none, .chan none, .chan none, .chan none, .chan none, .chan none, .chan none, .chan none, .chan none, .chan none, .chan none, .chan none, .chan none, .chan none, .chan none, .chan none, .chan none, .chan none, .chan none, .chan none, .chan none, .chan none, .chan none, .chan none, .chan none, .chan none, .chan none, .chan none, .chan none, .chan none, .chan none, .chan none, .chan none, .chan none, .chan none, .chan none, .chan none, .chan none, .chan none, .chan none, .chan none, .chan none, .chan none, .chan none, .chan none, .chan none, .chan none, .chan none, .chan none, .chan none, .chan none, .chan none, .chan none, .chan none]) (fun i => tsH (stpI i a4)) (fun i => i ≤ 456) (fun i => 456 - i) 0 [] rfl (by rw [stpI_zero]; rfl) (by omega) (fun i => ⟨rfl, rfl, ?hok, rfl⟩) ?_
  case hok =>
    simp only [tsH, List.all_cons, List.all_nil, Bool.and_true, Bool.and_eq_true]
    exact ⟨recC_all rfl ((stpI_top s4 i).L.all fun _ => rfl) rfl, rfl, rfl, rfl, rfl, rfl, rfl, rfl, rfl, rfl, rfl, rfl, rfl, rfl, rfl, rfl, rfl, rfl, rfl, rfl, rfl, rfl, rfl, rfl, rfl, rfl, rfl, rfl, rfl, rfl, rfl, rfl, rfl, rfl, rfl, rfl, rfl, rfl, rfl, rfl⟩
  clear k0 k1 k2 k3 k4 hL0 hL1 hL2 hL3 hnew
  intro i hi RR hR
  have hsi := stpI_top s4 i
  have hLi := hsi.L
  have hLn := (stpI_top s4 (i + 1)).L
  have ei : IntKind.i64.wrap ((i : Int) + 1) = ((i + 1 : Nat) : Int) := by rw [wrap64 (by omega) (by omega)]; rfl
  conv => whnf
  refine Bif.of (fun hc => ?_) fun hc => ?_
  · have hlt : i < 456 := by have := of_decide_eq_true hc; omega
    have hs2 : stp (stpI i a4) = stpI (i + 1) a4 := stpI_succ rfl
    rw [hc]
    conv => whnf
    refine ACalls.useE (t_stepQ _ hsi) [0, 1, 2, 3, 4, 5, 6, 7, 8, 9, 10, 11, 12, 13, 14, 15, 16, 17, 18, 19, 20, 21, 22, 23, 24, 25, 26, 27, 28, 29, 30, 31, 32, 33, 34, 35, 36, 37, 38, 39] rfl (by (conv => whnf); first | done | rfl | (refine renL_rec hLi.flat ?_; (conv => whnf); first | done | rfl)) (by (conv => whnf); try rfl) ?_
    conv => whnf
    rw [hs2]
    conv => whnf
    refine renL_rec hLn.flat ?_
    conv => whnf
    (rw [ei]; exact hR (i + 1) _ _ [] rfl rfl (by omega) (by omega))
  have hi0 : i = 456 := by have := of_decide_eq_false hc; omega
  rw [hc]
  subst hi0
  clear hR ei hLn hi hc
  generalize stpI 456 a4 = z at *
  conv => whnf
  refine ACalls.useE (k5) [0, 1, 2, 3, 4, 5, 6, 7, 8, 9, 10, 11, 12, 13, 14, 15, 16, 17, 18, 19, 20, 21, 22, 23, 24, 25, 26, 27, 28, 29, 30, 31, 32, 33, 34, 35, 36, 37, 38, 39] rfl (by (conv => whnf); first | done | rfl | (refine renL_rec hLi.flat ?_; (conv => whnf); first | done | rfl)) (by (conv => whnf); try rfl) ?_
  conv => whnf
  refine renL_rec hL5.flat ?_
  conv => whnf
  with_reducible refine renL_arr hA ?_
  conv => whnf
  refine Req.of ?_ ?_
  · exact arr_fits hA rfl fun _ => rfl
  conv => whnf
  (with_reducible refine putF_arr hA ?hl ?_; case' hl => exact List.length_replicate ..)
  conv => whnf
  rw [hk]
  conv => whnf
  clear k5 hLi hsi s4 hL4 a0 a1 a2 a3 s0 s1 s2 s3
  refine ALoop.run 2 ?_
  conv => whnf

  refine ALoop.fd (σ := Nat) (fun d => [.int .u8 g, .int .u8 u, .int .u8 y, .chan none, .chan none, .chan none, .chan none, .pointer (some ⟨0, 0, none⟩), .chan none, .pointer (some ⟨40, 0, none⟩), .pointer (some ⟨41, 0, none⟩), .pointer (some ⟨50, 0, none⟩), .int .i64 0, .int .i64 5, .pointer (some ⟨51, 0, none⟩), .int .i64 0, .int .i64 d, .chan none, .chan none, .chan none, .chan none, .chan none, .chan none, .chan none, .chan none, .chan none, .chan none, .chan none, .chan none, .chan none, .chan none, .chan none, .chan none, .chan none, .chan none, .chan none, .chan none, .chan none, .chan none, .chan none, .chan none, .chan none, .chan none, .chan none, .chan none, .chan none, .chan none, .chan none, .chan none, .chan none, .chan none, .chan none, .chan none, .chan none, .chan none, .chan none, .chan none, .chan none, .chan none, .chan none, .chan none, .chan none, .chan none, .chan none, .chan none, .chan none, .chan none, .chan none, .chan none, .chan none, .chan none, .chan none, .chan none, .chan none, .chan none, .chan none, .chan none, .chan none, .chan none, .chan none, .chan none, .chan none, .chan none, .chan none, .chan none, .chan none, .chan none, .chan none, .chan none, .chan none, .chan none, .chan none, .chan none, .chan none, .chan none, .chan none, .chan none, .chan none, .chan none, .chan none, .chan none, .chan none, .chan none, .chan none, .chan none, .chan none, .chan none, .chan none, .chan none, .chan none, .chan none, .chan none, .chan none, .chan none, .chan none, .chan none, .chan none, .chan none, .chan none, .chan none, .chan none, .chan none, .chan none]) (fun d => tsH a5 ++ [.cells (rowL .u8 F 160) 29, .cells [.int .i64 1, .int .i64 1, .int .i64 1, .int .i64 1, .int .i64 1, .int .i64 2, .int .i64 1, .int .i64 4] 38, .cells [.int .i64 0] 3, .cells [.int .i64 0, .int .i64 16] 3, .cells [.int .i64 0, .int .i64 32] 3, .cells [.int .i64 0, .int .i64 16, .int .i64 32] 3, .cells [.int .i64 0, .int .i64 64] 3, .cells [.int .i64 0] 3, .cells [.int .i64 0, .int .i64 32, .int .i64 64] 3, .cells [.int .i64 0] 3, .cells [.slice (some ⟨42, 0, none⟩) 1 1, .slice (some ⟨43, 0, none⟩) 2 2, .slice (some ⟨44, 0, none⟩) 2 2, .slice (some ⟨45, 0, none⟩) 3 3, .slice (some ⟨46, 0, none⟩) 2 2, .slice (some ⟨47, 0, none⟩) 1 1, .slice (some ⟨48, 0, none⟩) 3 3, .slice (some ⟨49, 0, none⟩) 1 1] 40, .cells (rowW (wI 0 P g (8 * 0 + d))) 41]) (fun d => d ≤ 8) (fun d => 8 - d) 0 [] rfl (by rw [show 8 * 0 + 0 = 0 from rfl, wI_zero, ← rowW_zero]; rfl) (by omega) (fun d => ⟨rfl, rfl, ?hok0, rfl⟩) ?_
  case hok0 =>
    simp only [tsH, List.cons_append, List.nil_append, List.all_cons, List.all_nil, Bool.and_true, Bool.and_eq_true]
    exact ⟨recC_all rfl (hL5.all fun _ => rfl) rfl, rfl, rfl, rfl, rfl, rfl, rfl, rfl, rfl, rfl, rfl, rfl, rfl, rfl, rfl, rfl, rfl, rfl, rfl, rfl, rfl, rfl, rfl, rfl, rfl, rfl, rfl, rfl, rfl, rfl, rfl, rfl, rfl, rfl, rfl, rfl, rfl, rfl, rfl, rfl, rowL_all fun _ => rfl, rfl, rfl, rfl, rfl, rfl, rfl, rfl, rfl, rfl, rfl, rowW_all fun _ => rfl⟩
  intro d0 hd R0 hR0
  have ei : IntKind.i64.wrap ((d0 : Int) + 1) = ((d0 + 1 : Nat) : Int) := by rw [wrap64 (by omega) (by omega)]; rfl
  have em : IntKind.i64.wrap (8 * 1) = 8 := by decide
  conv => whnf
  refine Bif.of (fun hc => ?_) fun hc => ?_
  · have hlt : d0 < 8 := by have h := of_decide_eq_true hc; omega
    rw [hc]
    have hraw : (IntKind.i64.wrap (IntKind.i64.wrap (IntKind.i64.wrap ((IntKind.i64.wrap y).tmod 160 + 0) + 5) + (d0 : Int))).tmod 160 = (((P + 0 + 5 + d0) % 160 : Nat) : Int) := by
      rw [hy, wrap64 (n := (P : Int) + 0) (by omega) (by omega), wrap64 (n := (P : Int) + 0 + 5) (by omega) (by omega), wrap64 (by omega) (by omega), Int.tmod_eq_emod_of_nonneg (by omega)]; omega
    have hix : (P + 0 + 5 + d0) % 160 < 160 := Nat.mod_lt _ (by decide)
    by_cases hgr : graphI g false 1 (d0 : Nat) = true
    · have hst : wI 0 P g (8 * 0 + (d0 + 1)) = fun j => wI 0 P g (8 * 0 + d0) j || decide (j = (P + 0 + 5 + d0) % 160) := wI_t (c := 8 * 0 + d0) rfl rfl hlt rfl rfl hgr
      generalize (P + 0 + 5 + d0) % 160 = ix at *
      conv => whnf
      refine ACalls.useE (field_graph _ _ _ _ hg ?_) [] rfl (by (conv => whnf); try rfl) (by (conv => whnf); try rfl) ?_
      · omega
      conv => whnf
      rw [hgr]
      conv => whnf
      rw [hraw]
      conv => whnf
      refine Req.of ?_ ?_
      · (rw [Bool.and_eq_true]; exact ⟨decide_eq_true (by omega), decide_eq_true (by omega)⟩)
      conv => whnf
      with_reducible refine putF_rowW ix (by show 0 + ((ix : Nat) : Int).toNat * 1 = ix; omega) hix hst ?_
      conv => whnf
      (rw [ei]; exact hR0 (d0 + 1) _ _ [] rfl rfl (by omega) (by omega))
    · have hgr2 : graphI g false 1 (d0 : Nat) = false := by simpa using hgr
      have hst : wI 0 P g (8 * 0 + (d0 + 1)) = wI 0 P g (8 * 0 + d0) := wI_f (c := 8 * 0 + d0) rfl rfl hlt rfl rfl hgr2
      conv => whnf
      refine ACalls.useE (field_graph _ _ _ _ hg ?_) [] rfl (by (conv => whnf); try rfl) (by (conv => whnf); try rfl) ?_
      · omega
      conv => whnf
      rw [hgr2]
      conv => whnf
      (rw [ei]; exact hR0 (d0 + 1) _ _ [] rfl (by rw [hst]; rfl) (by omega) (by omega))
  have hd0 : d0 = 8 := by have h := of_decide_eq_false hc; omega
  rw [hc]
  subst hd0
  clear hR0 ei hc hd
  conv => whnf

  refine ALoop.fd (σ := Nat) (fun x => [.int .u8 g, .int .u8 u, .int .u8 y, .chan none, .chan none, .chan none, .chan none, .pointer (some ⟨0, 0, none⟩), .chan none, .pointer (some ⟨40, 0, none⟩), .chan none, .chan none, .chan none, .chan none, .pointer (some ⟨51, 0, none⟩), .chan none, .chan none, .int .i64 x, .chan none, .chan none, .chan none, .chan none, .chan none, .chan none, .chan none, .chan none, .chan none, .chan none, .chan none, .chan none, .chan none, .chan none, .chan none, .chan none, .chan none, .chan none, .chan none, .chan none, .chan none, .chan none, .chan none, .chan none, .chan none, .chan none, .chan none, .chan none, .chan none, .chan none, .chan none, .chan none, .chan none, .chan none, .chan none, .chan none, .chan none, .chan none, .chan none, .chan none, .chan none, .chan none, .chan none, .chan none, .chan none, .chan none, .chan none, .chan none, .chan none, .chan none, .chan none, .chan none, .chan none, .chan none, .chan none, .chan none, .chan none, .chan none, .chan none, .chan none, .chan none, .chan none, .chan none, .chan none, .chan none, .chan none, .chan none, .chan none, .chan none, .chan none, .chan none, .chan none, .chan none, .chan none, .chan none, .chan none, .chan none, .chan none, .chan none, .chan none, .chan none, .chan none, .chan none, .chan none, .chan none, .chan none, .chan none, .chan none, .chan none, .chan none, .chan none, .chan none, .chan none, .chan none, .chan none, .chan none, .chan none, .chan none, .chan none, .chan none, .chan none, .chan none, .chan none, .chan none, .chan none]) (fun x => tsH a5 ++ [.cells (rowL .u8 F 160) 29, .cells [.int .i64 1, .int .i64 1, .int .i64 1, .int .i64 1, .int .i64 1, .int .i64 2, .int .i64 1, .int .i64 4] 38, .cells [.int .i64 0] 3, .cells [.int .i64 0, .int .i64 16] 3, .cells [.int .i64 0, .int .i64 32] 3, .cells [.int .i64 0, .int .i64 16, .int .i64 32] 3, .cells [.int .i64 0, .int .i64 64] 3, .cells [.int .i64 0] 3, .cells [.int .i64 0, .int .i64 32, .int .i64 64] 3, .cells [.int .i64 0] 3, .cells [.slice (some ⟨42, 0, none⟩) 1 1, .slice (some ⟨43, 0, none⟩) 2 2, .slice (some ⟨44, 0, none⟩) 2 2, .slice (some ⟨45, 0, none⟩) 3 3, .slice (some ⟨46, 0, none⟩) 2 2, .slice (some ⟨47, 0, none⟩) 1 1, .slice (some ⟨48, 0, none⟩) 3 3, .slice (some ⟨49, 0, none⟩) 1 1] 40, .cells (rowW (wI 0 P g 8)) 41]) (fun x => x ≤ 160) (fun x => 160 - x) 0 [] rfl rfl (by omega) (fun x => ⟨rfl, rfl, ?hokz, rfl⟩) ?_
  case hokz =>
    simp only [tsH, List.cons_append, List.nil_append, List.all_cons, List.all_nil, Bool.and_true, Bool.and_eq_true]
    exact ⟨recC_all rfl (hL5.all fun _ => rfl) rfl, rfl, rfl, rfl, rfl, rfl, rfl, rfl, rfl, rfl, rfl, rfl, rfl, rfl, rfl, rfl, rfl, rfl, rfl, rfl, rfl, rfl, rfl, rfl, rfl, rfl, rfl, rfl, rfl, rfl, rfl, rfl, rfl, rfl, rfl, rfl, rfl, rfl, rfl, rfl, rowL_all fun _ => rfl, rfl, rfl, rfl, rfl, rfl, rfl, rfl, rfl, rfl, rfl, rowW_all fun _ => rfl⟩
  intro x hx Rx hRx
  have ei : IntKind.i64.wrap ((x : Int) + 1) = ((x + 1 : Nat) : Int) := by rw [wrap64 (by omega) (by omega)]; rfl
  conv => whnf
  refine Bif.of (fun hc => ?_) fun hc => ?_
  · have hlt : x < 160 := by have h := of_decide_eq_true hc; omega
    rw [hc]
    have hFx := hF x hlt
    by_cases hcw : wI 0 P g 8 x = true
    · rw [if_pos hcw] at hFx
      conv => whnf
      refine Req.of ?_ ?_
      · (rw [Bool.and_eq_true]; exact ⟨decide_eq_true (by omega), decide_eq_true (by omega)⟩)
      conv => whnf
      with_reducible refine getF_rowL x (by show 0 + (x : Int).toNat * 1 = x; omega) hlt ?_
      conv => whnf
      rw [hFx]
      conv => whnf
      refine Req.of ?_ ?_
      · (rw [Bool.and_eq_true]; exact ⟨decide_eq_true (by omega), decide_eq_true (by omega)⟩)
      conv => whnf
      with_reducible refine getF_rowW x (by show 0 + (x : Int).toNat * 1 = x; omega) hlt ?_
      conv => whnf
      rw [hcw]
      conv => whnf
      refine Req.of ?_ ?_
      · (rw [Bool.and_eq_true]; exact ⟨decide_eq_true (by omega), decide_eq_true (by omega)⟩)
      conv => whnf
      with_reducible refine getF_rowL x (by show 0 + (x : Int).toNat * 1 = x; omega) hlt ?_
      conv => whnf
      rw [hFx]
      conv => whnf
      (rw [ei]; exact hRx (x + 1) _ _ [] rfl rfl (by omega) (by omega))
    · have hcw2 : wI 0 P g 8 x = false := by simpa using hcw
      rw [if_neg hcw] at hFx
      conv => whnf
      refine Req.of ?_ ?_
      · (rw [Bool.and_eq_true]; exact ⟨decide_eq_true (by omega), decide_eq_true (by omega)⟩)
      conv => whnf
      with_reducible refine getF_rowL x (by show 0 + (x : Int).toNat * 1 = x; omega) hlt ?_
      conv => whnf
      rw [hFx]
      conv => whnf
      refine Req.of ?_ ?_
      · (rw [Bool.and_eq_true]; exact ⟨decide_eq_true (by omega), decide_eq_true (by omega)⟩)
      conv => whnf
      with_reducible refine getF_rowW x (by show 0 + (x : Int).toNat * 1 = x; omega) hlt ?_
      conv => whnf
      rw [hcw2]
      conv => whnf
      refine Req.of ?_ ?_
      · (rw [Bool.and_eq_true]; exact ⟨decide_eq_true (by omega), decide_eq_true (by omega)⟩)
      conv => whnf
      with_reducible refine getF_rowL x (by show 0 + (x : Int).toNat * 1 = x; omega) hlt ?_
      conv => whnf
      rw [hFx]
      conv => whnf
      refine Req.of ?_ ?_
      · (rw [Bool.and_eq_true]; exact ⟨decide_eq_true (by omega), decide_eq_true (by omega)⟩)
      conv => whnf
      with_reducible refine getF_rowL x (by show 0 + (x : Int).toNat * 1 = x; omega) hlt ?_
      conv => whnf
      rw [hFx]
      conv => whnf
      (rw [ei]; exact hRx (x + 1) _ _ [] rfl rfl (by omega) (by omega))
  · rw [hc]
    clear hRx
    conv => whnf
theorem tcop_1 (g u y : Int) (hg : 0 ≤ g ∧ g ≤ 255) (hk : (IntKind.i64.wrap u).tmod 8 = 1) (P : Nat) (hP : P < 160) (hy : (IntKind.i64.wrap y).tmod 160 = (P : Int))
    (a0 a1 a2 a3 a4 a5 : TS) (s0 : a0.Top) (s1 : a1.Top) (s2 : a2.Top) (s3 : a3.Top) (s4 : a4.Top) (s5 : a5.Top) (F : Nat → Int) (A : Array Value) (hA : A.toList = rowL .u8 F 160)
    (k0 : ACalls Tryz.prog 7 [.int .i64 ((68 + P : Nat) : Int)] [] fun v H => v = .pointer (some ⟨0, 0, none⟩) ∧ H = tsH a0)
    (k1 : ACalls Tryz.prog 8 [.pointer (some ⟨0, 0, none⟩), .int .u16 16, .int .u8 0] (tsH a0) fun r H => r = .tuple #[] ∧ H = tsH a1)
    (k2 : ACalls Tryz.prog 8 [.pointer (some ⟨0, 0, none⟩), .int .u16 4, .int .u8 u] (tsH a1) fun r H => r = .tuple #[] ∧ H = tsH a2)
    (k3 : ACalls Tryz.prog 8 [.pointer (some ⟨0, 0, none⟩), .int .u16 6, .int .u8 68] (tsH a2) fun r H => r = .tuple #[] ∧ H = tsH a3)
    (k4 : ACalls Tryz.prog 8 [.pointer (some ⟨0, 0, none⟩), .int .u16 27, .int .u8 g] (tsH a3) fun r H => r = .tuple #[] ∧ H = tsH a4)
    (k5 : ACalls Tryz.prog 9 [.pointer (some ⟨0, 0, none⟩)] (tsH (stpI 456 a4)) fun v H => v = .agg A ∧ H = tsH a5)
    (hF : ∀ x, x < 160 → F x = if wI 1 P g 16 x then 68 else 0) :
    ACalls Tryz.prog 4 [.int .u8 g, .int .u8 u, .int .u8 y] [] fun v _ => v = .bool true := by
  have hL0 := s0.L
  have hL1 := s1.L
  have hL2 := s2.L
  have hL3 := s3.L
  have hL4 := s4.L
  have hL5 := s5.L
  have hnew : (IntKind.i64.wrap (68 + (IntKind.i64.wrap y).tmod 160)).tmod 228 = ((68 + P : Nat) : Int) := by
    rw [hy, wrap64 (by omega) (by omega), Int.tmod_eq_emod_of_nonneg (by omega)]; omega
  refine ACalls.code tabOk h4 Tryz.func4 Tryz.call4 ok4 ?_
  conv => whnf
  refine ACalls.useE (t_draws) [] rfl (by (conv => whnf); first | done | rfl | (refine renL_rec hL0.flat ?_; (conv => whnf); first | done | rfl) | (refine renL_rec hL1.flat ?_; (conv => whnf); first | done | rfl) | (refine renL_rec hL2.flat ?_; (conv => whnf); first | done | rfl) | (refine renL_rec hL3.flat ?_; (conv => whnf); first | done | rfl) | (refine renL_rec hL4.flat ?_; (conv => whnf); first | done | rfl)) (by (conv => whnf); try rfl) ?_
  conv => whnf
  rw [hnew]
  refine ACalls.useE (k0) [] rfl (by (conv => whnf); first | done | rfl | (refine renL_rec hL0.flat ?_; (conv => whnf); first | done | rfl) | (refine renL_rec hL1.flat ?_; (conv => whnf); first | done | rfl) | (refine renL_rec hL2.flat ?_; (conv => whnf); first | done | rfl) | (refine renL_rec hL3.flat ?_; (conv => whnf); first | done | rfl) | (refine renL_rec hL4.flat ?_; (conv => whnf); first | done | rfl)) (by (conv => whnf); try rfl) ?_
  conv => whnf
  refine renL_rec hL0.flat ?_
  conv => whnf
  refine ACalls.useE (k1) [0, 1, 2, 3, 4, 5, 6, 7, 8, 9, 10, 11, 12, 13, 14, 15, 16, 17, 18, 19, 20, 21, 22, 23, 24, 25, 26, 27, 28, 29, 30, 31, 32, 33, 34, 35, 36, 37, 38, 39] rfl (by (conv => whnf); first | done | rfl | (refine renL_rec hL0.flat ?_; (conv => whnf); first | done | rfl) | (refine renL_rec hL1.flat ?_; (conv => whnf); first | done | rfl) | (refine renL_rec hL2.flat ?_; (conv => whnf); first | done | rfl) | (refine renL_rec hL3.flat ?_; (conv => whnf); first | done | rfl) | (refine renL_rec hL4.flat ?_; (conv => whnf); first | done | rfl)) (by (conv => whnf); try rfl) ?_
  conv => whnf
  refine renL_rec hL1.flat ?_
  conv => whnf
  refine ACalls.useE (k2) [0, 1, 2, 3, 4, 5, 6, 7, 8, 9, 10, 11, 12, 13, 14, 15, 16, 17, 18, 19, 20, 21, 22, 23, 24, 25, 26, 27, 28, 29, 30, 31, 32, 33, 34, 35, 36, 37, 38, 39] rfl (by (conv => whnf); first | done | rfl | (refine renL_rec hL0.flat ?_; (conv => whnf); first | done | rfl) | (refine renL_rec hL1.flat ?_; (conv => whnf); first | done | rfl) | (refine renL_rec hL2.flat ?_; (conv => whnf); first | done | rfl) | (refine renL_rec hL3.flat ?_; (conv => whnf); first | done | rfl) | (refine renL_rec hL4.flat ?_; (conv => whnf); first | done | rfl)) (by (conv => whnf); try rfl) ?_
  conv => whnf
  refine renL_rec hL2.flat ?_
  conv => whnf
  refine ACalls.useE (k3) [0, 1, 2, 3, 4, 5, 6, 7, 8, 9, 10, 11, 12, 13, 14, 15, 16, 17, 18, 19, 20, 21, 22, 23, 24, 25, 26, 27, 28, 29, 30, 31, 32, 33, 34, 35, 36, 37, 38, 39] rfl (by (conv => whnf); first | done | rfl | (refine renL_rec hL0.flat ?_; (conv => whnf); first | done | rfl) | (refine renL_rec hL1.flat ?_; (conv => whnf); first | done | rfl) | (refine renL_rec hL2.flat ?_; (conv => whnf); first | done | rfl) | (refine renL_rec hL3.flat ?_; (conv => whnf); first | done | rfl) | (refine renL_rec hL4.flat ?_; (conv => whnf); first | done | rfl)) (by (conv => whnf); try rfl) ?_
  conv => whnf
  refine renL_rec hL3.flat ?_
  conv => whnf
  refine ACalls.useE (k4) [0, 1, 2, 3, 4, 5, 6, 7, 8, 9, 10, 11, 12, 13, 14, 15, 16, 17, 18, 19, 20, 21, 22, 23, 24, 25, 26, 27, 28, 29, 30, 31, 32, 33, 34, 35, 36, 37, 38, 39] rfl (by (conv => whnf); first | done | rfl | (refine renL_rec hL0.flat ?_; (conv => whnf); first | done | rfl) | (refine renL_rec hL1.flat ?_; (conv => whnf); first | done | rfl) | (refine renL_rec hL2.flat ?_; (conv => whnf); first | done | rfl) | (refine renL_rec hL3.flat ?_; (conv => whnf); first | done | rfl) | (refine renL_rec hL4.flat ?_; (conv => whnf); first | done | rfl)) (by (conv => whnf); try rfl) ?_
  conv => whnf
  refine renL_rec hL4.flat ?_
  conv => whnf
  refine ALoop.fd (σ := Nat) (fun i => [.int .u8 g, .int .u8 u, .int .u8 y, .chan none, .chan none, .chan none, .chan none, .pointer (some ⟨0, 0, none⟩), .int .i64 i, .chan none, .chan none, .chan none, .chan none, .chan none, .chan none, .chan none, .chan none, .chan none, .chan none, .chan none, .chan none, .chan none, .chan none, .chan none, .chan none, .chan none, .chan none, .chan none, .chan none, .chan none, .chan none, .chan none, .chan none, .chan none, .chan none, .chan none, .chan none, .chan none, .chan none, .chan none, .chan none, .chan none, .chan none, .chan none, .chan none, .chan none, .chan none, .chan none, .chan none, .chan none, .chan none, .chan none, .chan none, .chan none, .chan none, .chan none, .chan none, .chan none, .chan none, .chan none, .chan none, .chan none, .chan none, .chan none, .chan none, .chan none, .chan none, .chan none, .chan none, .chan none, .chan none, .chan none, .chan none, .chan none, .chan none, .chan none, .chan none, .chan none, .chan none, .chan none, .chan none, .chan none, .chan none, .chan none, .chan none, .chan none, .chan none, .chan none, .chan none, .chan none, .chan none, .chan none, .chan none, .chan none, .chan none, .chan none, .chan none, .chan none, .chan none, .chan none, .chan none, .chan none, .chan none, .chan none, .chan none, .chan none, .chan none, .chan none, .chan none, .chan none, .chan none, .chan none, .chan none, .chan none, .chan none, .chan none, .chan none, .chan none, .chan none, .chan none, .chan none, .chan none, .chan none]) (fun i => tsH (stpI i a4)) (fun i => i ≤ 456) (fun i => 456 - i) 0 [] rfl (by rw [stpI_zero]; rfl) (by omega) (fun i => ⟨rfl, rfl, ?hok, rfl⟩) ?_
  case hok =>
    simp only [tsH, List.all_cons, List.all_nil, Bool.and_true, Bool.and_eq_true]
    exact ⟨recC_all rfl ((stpI_top s4 i).L.all fun _ => rfl) rfl, rfl, rfl, rfl, rfl, rfl, rfl, rfl, rfl, rfl, rfl, rfl, rfl, rfl, rfl, rfl, rfl, rfl, rfl, rfl, rfl, rfl, rfl, rfl, rfl, rfl, rfl, rfl, rfl, rfl, rfl, rfl, rfl, rfl, rfl, rfl, rfl, rfl, rfl, rfl⟩
  clear k0 k1 k2 k3 k4 hL0 hL1 hL2 hL3 hnew
  intro i hi RR hR
  have hsi := stpI_top s4 i
  have hLi := hsi.L
  have hLn := (stpI_top s4 (i + 1)).L
  have ei : IntKind.i64.wrap ((i : Int) + 1) = ((i + 1 : Nat) : Int) := by rw [wrap64 (by omega) (by omega)]; rfl
  conv => whnf
  refine Bif.of (fun hc => ?_) fun hc => ?_
  · have hlt : i < 456 := by have := of_decide_eq_true hc; omega
    have hs2 : stp (stpI i a4) = stpI (i + 1) a4 := stpI_succ rfl
    rw [hc]
    conv => whnf
    refine ACalls.useE (t_stepQ _ hsi) [0, 1, 2, 3, 4, 5, 6, 7, 8, 9, 10, 11, 12, 13, 14, 15, 16, 17, 18, 19, 20, 21, 22, 23, 24, 25, 26, 27, 28, 29, 30, 31, 32, 33, 34, 35, 36, 37, 38, 39] rfl (by (conv => whnf); first | done | rfl | (refine renL_rec hLi.flat ?_; (conv => whnf); first | done | rfl)) (by (conv => whnf); try rfl) ?_
    conv => whnf
    rw [hs2]
    conv => whnf
    refine renL_rec hLn.flat ?_
    conv => whnf
    (rw [ei]; exact hR (i + 1) _ _ [] rfl rfl (by omega) (by omega))
  have hi0 : i = 456 := by have := of_decide_eq_false hc; omega
  rw [hc]
  subst hi0
  clear hR ei hLn hi hc
  generalize stpI 456 a4 = z at *
  conv => whnf
  refine ACalls.useE (k5) [0, 1, 2, 3, 4, 5, 6, 7, 8, 9, 10, 11, 12, 13, 14, 15, 16, 17, 18, 19, 20, 21, 22, 23, 24, 25, 26, 27, 28, 29, 30, 31, 32, 33, 34, 35, 36, 37, 38, 39] rfl (by (conv => whnf); first | done | rfl | (refine renL_rec hLi.flat ?_; (conv => whnf); first | done | rfl)) (by (conv => whnf); try rfl) ?_
  conv => whnf
  refine renL_rec hL5.flat ?_
  conv => whnf
  with_reducible refine renL_arr hA ?_
  conv => whnf
  refine Req.of ?_ ?_
  · exact arr_fits hA rfl fun _ => rfl
  conv => whnf
  (with_reducible refine putF_arr hA ?hl ?_; case' hl => exact List.length_replicate ..)
  conv => whnf
  rw [hk]
  conv => whnf
  clear k5 hLi hsi s4 hL4 a0 a1 a2 a3 s0 s1 s2 s3
  refine ALoop.run 3 ?_
  conv => whnf

  refine ALoop.fd (σ := Nat) (fun d => [.int .u8 g, .int .u8 u, .int .u8 y, .chan none, .chan none, .chan none, .chan none, .pointer (some ⟨0, 0, none⟩), .chan none, .pointer (some ⟨40, 0, none⟩), .pointer (some ⟨41, 0, none⟩), .pointer (some ⟨50, 0, none⟩), .int .i64 1, .int .i64 5, .pointer (some ⟨51, 0, none⟩), .int .i64 0, .int .i64 d, .chan none, .chan none, .chan none, .chan none, .chan none, .chan none, .chan none, .chan none, .chan none, .chan none, .chan none, .chan none, .chan none, .chan none, .chan none, .chan none, .chan none, .chan none, .chan none, .chan none, .chan none, .chan none, .chan none, .chan none, .chan none, .chan none, .chan none, .chan none, .chan none, .chan none, .chan none, .chan none, .chan none, .chan none, .chan none, .chan none, .chan none, .chan none, .chan none, .chan none, .chan none, .chan none, .chan none, .chan none, .chan none, .chan none, .chan none, .chan none, .chan none, .chan none, .chan none, .chan none, .chan none, .chan none, .chan none, .chan none, .chan none, .chan none, .chan none, .chan none, .chan none, .chan none, .chan none, .chan none, .chan none, .chan none, .chan none, .chan none, .chan none, .chan none, .chan none, .chan none, .chan none, .chan none, .chan none, .chan none, .chan none, .chan none, .chan none, .chan none, .chan none, .chan none, .chan none, .chan none, .chan none, .chan none, .chan none, .chan none, .chan none, .chan none, .chan none, .chan none, .chan none, .chan none, .chan none, .chan none, .chan none, .chan none, .chan none, .chan none, .chan none, .chan none, .chan none, .chan none, .chan none, .chan none]) (fun d => tsH a5 ++ [.cells (rowL .u8 F 160) 29, .cells [.int .i64 1, .int .i64 1, .int .i64 1, .int .i64 1, .int .i64 1, .int .i64 2, .int .i64 1, .int .i64 4] 38, .cells [.int .i64 0] 3, .cells [.int .i64 0, .int .i64 16] 3, .cells [.int .i64 0, .int .i64 32] 3, .cells [.int .i64 0, .int .i64 16, .int .i64 32] 3, .cells [.int .i64 0, .int .i64 64] 3, .cells [.int .i64 0] 3, .cells [.int .i64 0, .int .i64 32, .int .i64 64] 3, .cells [.int .i64 0] 3, .cells [.slice (some ⟨42, 0, none⟩) 1 1, .slice (some ⟨43, 0, none⟩) 2 2, .slice (some ⟨44, 0, none⟩) 2 2, .slice (some ⟨45, 0, none⟩) 3 3, .slice (some ⟨46, 0, none⟩) 2 2, .slice (some ⟨47, 0, none⟩) 1 1, .slice (some ⟨48, 0, none⟩) 3 3, .slice (some ⟨49, 0, none⟩) 1 1] 40, .cells (rowW (wI 1 P g (8 * 0 + d))) 41]) (fun d => d ≤ 8) (fun d => 8 - d) 0 [] rfl (by rw [show 8 * 0 + 0 = 0 from rfl, wI_zero, ← rowW_zero]; rfl) (by omega) (fun d => ⟨rfl, rfl, ?hok0, rfl⟩) ?_
  case hok0 =>
    simp only [tsH, List.cons_append, List.nil_append, List.all_cons, List.all_nil, Bool.and_true, Bool.and_eq_true]
    exact ⟨recC_all rfl (hL5.all fun _ => rfl) rfl, rfl, rfl, rfl, rfl, rfl, rfl, rfl, rfl, rfl, rfl, rfl, rfl, rfl, rfl, rfl, rfl, rfl, rfl, rfl, rfl, rfl, rfl, rfl, rfl, rfl, rfl, rfl, rfl, rfl, rfl, rfl, rfl, rfl, rfl, rfl, rfl, rfl, rfl, rfl, rowL_all fun _ => rfl, rfl, rfl, rfl, rfl, rfl, rfl, rfl, rfl, rfl, rfl, rowW_all fun _ => rfl⟩
  intro d0 hd R0 hR0
  have ei : IntKind.i64.wrap ((d0 : Int) + 1) = ((d0 + 1 : Nat) : Int) := by rw [wrap64 (by omega) (by omega)]; rfl
  have em : IntKind.i64.wrap (8 * 1) = 8 := by decide
  conv => whnf
  refine Bif.of (fun hc => ?_) fun hc => ?_
  · have hlt : d0 < 8 := by have h := of_decide_eq_true hc; omega
    rw [hc]
    have hraw : (IntKind.i64.wrap (IntKind.i64.wrap (IntKind.i64.wrap ((IntKind.i64.wrap y).tmod 160 + 0) + 5) + (d0 : Int))).tmod 160 = (((P + 0 + 5 + d0) % 160 : Nat) : Int) := by
      rw [hy, wrap64 (n := (P : Int) + 0) (by omega) (by omega), wrap64 (n := (P : Int) + 0 + 5) (by omega) (by omega), wrap64 (by omega) (by omega), Int.tmod_eq_emod_of_nonneg (by omega)]; omega
    have hix : (P + 0 + 5 + d0) % 160 < 160 := Nat.mod_lt _ (by decide)
    by_cases hgr : graphI g false 1 (d0 : Nat) = true
    · have hst : wI 1 P g (8 * 0 + (d0 + 1)) = fun j => wI 1 P g (8 * 0 + d0) j || decide (j = (P + 0 + 5 + d0) % 160) := wI_t (c := 8 * 0 + d0) rfl rfl hlt rfl rfl hgr
      generalize (P + 0 + 5 + d0) % 160 = ix at *
      conv => whnf
      refine ACalls.useE (field_graph _ _ _ _ hg ?_) [] rfl (by (conv => whnf); try rfl) (by (conv => whnf); try rfl) ?_
      · omega
      conv => whnf
      rw [hgr]
      conv => whnf
      rw [hraw]
      conv => whnf
      refine Req.of ?_ ?_
      · (rw [Bool.and_eq_true]; exact ⟨decide_eq_true (by omega), decide_eq_true (by omega)⟩)
      conv => whnf
      with_reducible refine putF_rowW ix (by show 0 + ((ix : Nat) : Int).toNat * 1 = ix; omega) hix hst ?_
      conv => whnf
      (rw [ei]; exact hR0 (d0 + 1) _ _ [] rfl rfl (by omega) (by omega))
    · have hgr2 : graphI g false 1 (d0 : Nat) = false := by simpa using hgr
      have hst : wI 1 P g (8 * 0 + (d0 + 1)) = wI 1 P g (8 * 0 + d0) := wI_f (c := 8 * 0 + d0) rfl rfl hlt rfl rfl hgr2
      conv => whnf
      refine ACalls.useE (field_graph _ _ _ _ hg ?_) [] rfl (by (conv => whnf); try rfl) (by (conv => whnf); try rfl) ?_
      · omega
      conv => whnf
      rw [hgr2]
      conv => whnf
      (rw [ei]; exact hR0 (d0 + 1) _ _ [] rfl (by rw [hst]; rfl) (by omega) (by omega))
  have hd0 : d0 = 8 := by have h := of_decide_eq_false hc; omega
  rw [hc]
  subst hd0
  clear hR0 ei hc hd
  conv => whnf

  refine ALoop.fd (σ := Nat) (fun d => [.int .u8 g, .int .u8 u, .int .u8 y, .chan none, .chan none, .chan none, .chan none, .pointer (some ⟨0, 0, none⟩), .chan none, .pointer (some ⟨40, 0, none⟩), .pointer (some ⟨41, 0, none⟩), .pointer (some ⟨50, 0, none⟩), .int .i64 1, .int .i64 5, .pointer (some ⟨51, 0, none⟩), .int .i64 1, .int .i64 d, .chan none, .chan none, .chan none, .chan none, .chan none, .chan none, .chan none, .chan none, .chan none, .chan none, .chan none, .chan none, .chan none, .chan none, .chan none, .chan none, .chan none, .chan none, .chan none, .chan none, .chan none, .chan none, .chan none, .chan none, .chan none, .chan none, .chan none, .chan none, .chan none, .chan none, .chan none, .chan none, .chan none, .chan none, .chan none, .chan none, .chan none, .chan none, .chan none, .chan none, .chan none, .chan none, .chan none, .chan none, .chan none, .chan none, .chan none, .chan none, .chan none, .chan none, .chan none, .chan none, .chan none, .chan none, .chan none, .chan none, .chan none, .chan none, .chan none, .chan none, .chan none, .chan none, .chan none, .chan none, .chan none, .chan none, .chan none, .chan none, .chan none, .chan none, .chan none, .chan none, .chan none, .chan none, .chan none, .chan none, .chan none, .chan none, .chan none, .chan none, .chan none, .chan none, .chan none, .chan none, .chan none, .chan none, .chan none, .chan none, .chan none, .chan none, .chan none, .chan none, .chan none, .chan none, .chan none, .chan none, .chan none, .chan none, .chan none, .chan none, .chan none, .chan none, .chan none, .chan none, .chan none, .chan none]) (fun d => tsH a5 ++ [.cells (rowL .u8 F 160) 29, .cells [.int .i64 1, .int .i64 1, .int .i64 1, .int .i64 1, .int .i64 1, .int .i64 2, .int .i64 1, .int .i64 4] 38, .cells [.int .i64 0] 3, .cells [.int .i64 0, .int .i64 16] 3, .cells [.int .i64 0, .int .i64 32] 3, .cells [.int .i64 0, .int .i64 16, .int .i64 32] 3, .cells [.int .i64 0, .int .i64 64] 3, .cells [.int .i64 0] 3, .cells [.int .i64 0, .int .i64 32, .int .i64 64] 3, .cells [.int .i64 0] 3, .cells [.slice (some ⟨42, 0, none⟩) 1 1, .slice (some ⟨43, 0, none⟩) 2 2, .slice (some ⟨44, 0, none⟩) 2 2, .slice (some ⟨45, 0, none⟩) 3 3, .slice (some ⟨46, 0, none⟩) 2 2, .slice (some ⟨47, 0, none⟩) 1 1, .slice (some ⟨48, 0, none⟩) 3 3, .slice (some ⟨49, 0, none⟩) 1 1] 40, .cells (rowW (wI 1 P g (8 * 1 + d))) 41]) (fun d => d ≤ 8) (fun d => 8 - d) 0 [] rfl rfl (by omega) (fun d => ⟨rfl, rfl, ?hok1, rfl⟩) ?_
  case hok1 =>
    simp only [tsH, List.cons_append, List.nil_append, List.all_cons, List.all_nil, Bool.and_true, Bool.and_eq_true]
    exact ⟨recC_all rfl (hL5.all fun _ => rfl) rfl, rfl, rfl, rfl, rfl, rfl, rfl, rfl, rfl, rfl, rfl, rfl, rfl, rfl, rfl, rfl, rfl, rfl, rfl, rfl, rfl, rfl, rfl, rfl, rfl, rfl, rfl, rfl, rfl, rfl, rfl, rfl, rfl, rfl, rfl, rfl, rfl, rfl, rfl, rfl, rowL_all fun _ => rfl, rfl, rfl, rfl, rfl, rfl, rfl, rfl, rfl, rfl, rfl, rowW_all fun _ => rfl⟩
  intro d1 hd R1 hR1
  have ei : IntKind.i64.wrap ((d1 : Int) + 1) = ((d1 + 1 : Nat) : Int) := by rw [wrap64 (by omega) (by omega)]; rfl
  have em : IntKind.i64.wrap (8 * 1) = 8 := by decide
  conv => whnf
  refine Bif.of (fun hc => ?_) fun hc => ?_
  · have hlt : d1 < 8 := by have h := of_decide_eq_true hc; omega
    rw [hc]
    have hraw : (IntKind.i64.wrap (IntKind.i64.wrap (IntKind.i64.wrap ((IntKind.i64.wrap y).tmod 160 + 16) + 5) + (d1 : Int))).tmod 160 = (((P + 16 + 5 + d1) % 160 : Nat) : Int) := by
      rw [hy, wrap64 (n := (P : Int) + 16) (by omega) (by omega), wrap64 (n := (P : Int) + 16 + 5) (by omega) (by omega), wrap64 (by omega) (by omega), Int.tmod_eq_emod_of_nonneg (by omega)]; omega
    have hix : (P + 16 + 5 + d1) % 160 < 160 := Nat.mod_lt _ (by decide)
    by_cases hgr : graphI g false 1 (d1 : Nat) = true
    · have hst : wI 1 P g (8 * 1 + (d1 + 1)) = fun j => wI 1 P g (8 * 1 + d1) j || decide (j = (P + 16 + 5 + d1) % 160) := wI_t (c := 8 * 1 + d1) rfl rfl hlt rfl rfl hgr
      generalize (P + 16 + 5 + d1) % 160 = ix at *
      conv => whnf
      refine ACalls.useE (field_graph _ _ _ _ hg ?_) [] rfl (by (conv => whnf); try rfl) (by (conv => whnf); try rfl) ?_
      · omega
      conv => whnf
      rw [hgr]
      conv => whnf
      rw [hraw]
      conv => whnf
      refine Req.of ?_ ?_
      · (rw [Bool.and_eq_true]; exact ⟨decide_eq_true (by omega), decide_eq_true (by omega)⟩)
      conv => whnf
      with_reducible refine putF_rowW ix (by show 0 + ((ix : Nat) : Int).toNat * 1 = ix; omega) hix hst ?_
      conv => whnf
      (rw [ei]; exact hR1 (d1 + 1) _ _ [] rfl rfl (by omega) (by omega))
    · have hgr2 : graphI g false 1 (d1 : Nat) = false := by simpa using hgr
      have hst : wI 1 P g (8 * 1 + (d1 + 1)) = wI 1 P g (8 * 1 + d1) := wI_f (c := 8 * 1 + d1) rfl rfl hlt rfl rfl hgr2
      conv => whnf
      refine ACalls.useE (field_graph _ _ _ _ hg ?_) [] rfl (by (conv => whnf); try rfl) (by (conv => whnf); try rfl) ?_
      · omega
      conv => whnf
      rw [hgr2]
      conv => whnf
      (rw [ei]; exact hR1 (d1 + 1) _ _ [] rfl (by rw [hst]; rfl) (by omega) (by omega))
  have hd0 : d1 = 8 := by have h := of_decide_eq_false hc; omega
  rw [hc]
  subst hd0
  clear hR1 ei hc hd
  conv => whnf

  refine ALoop.fd (σ := Nat) (fun x => [.int .u8 g, .int .u8 u, .int .u8 y, .chan none, .chan none, .chan none, .chan none, .pointer (some ⟨0, 0, none⟩), .chan none, .pointer (some ⟨40, 0, none⟩), .chan none, .chan none, .chan none, .chan none, .pointer (some ⟨51, 0, none⟩), .chan none, .chan none, .int .i64 x, .chan none, .chan none, .chan none, .chan none, .chan none, .chan none, .chan none, .chan none, .chan none, .chan none, .chan none, .chan none, .chan none, .chan none, .chan none, .chan none, .chan none, .chan none, .chan none, .chan none, .chan none, .chan none, .chan none, .chan none, .chan none, .chan none, .chan none, .chan none, .chan none, .chan none, .chan none, .chan none, .chan none, .chan none, .chan none, .chan none, .chan none, .chan none, .chan none, .chan none, .chan none, .chan none, .chan none, .chan none, .chan none, .chan none, .chan none, .chan none, .chan none, .chan none, .chan none, .chan none, .chan none, .chan none, .chan none, .chan none, .chan none, .chan none, .chan none, .chan none, .chan none, .chan none, .chan none, .chan none, .chan none, .chan none, .chan none, .chan none, .chan none, .chan none, .chan none, .chan none, .chan none, .chan none, .chan none, .chan none, .chan none, .chan none, .chan none, .chan none, .chan none, .chan none, .chan none, .chan none, .chan none, .chan none, .chan none, .chan none, .chan none, .chan none, .chan none, .chan none, .chan none, .chan none, .chan none, .chan none, .chan none, .chan none, .chan none, .chan none, .chan none, .chan none, .chan none, .chan none, .chan none]) (fun x => tsH a5 ++ [.cells (rowL .u8 F 160) 29, .cells [.int .i64 1, .int .i64 1, .int .i64 1, .int .i64 1, .int .i64 1, .int .i64 2, .int .i64 1, .int .i64 4] 38, .cells [.int .i64 0] 3, .cells [.int .i64 0, .int .i64 16] 3, .cells [.int .i64 0, .int .i64 32] 3, .cells [.int .i64 0, .int .i64 16, .int .i64 32] 3, .cells [.int .i64 0, .int .i64 64] 3, .cells [.int .i64 0] 3, .cells [.int .i64 0, .int .i64 32, .int .i64 64] 3, .cells [.int .i64 0] 3, .cells [.slice (some ⟨42, 0, none⟩) 1 1, .slice (some ⟨43, 0, none⟩) 2 2, .slice (some ⟨44, 0, none⟩) 2 2, .slice (some ⟨45, 0, none⟩) 3 3, .slice (some ⟨46, 0, none⟩) 2 2, .slice (some ⟨47, 0, none⟩) 1 1, .slice (some ⟨48, 0, none⟩) 3 3, .slice (some ⟨49, 0, none⟩) 1 1] 40, .cells (rowW (wI 1 P g 16)) 41]) (fun x => x ≤ 160) (fun x => 160 - x) 0 [] rfl rfl (by omega) (fun x => ⟨rfl, rfl, ?hokz, rfl⟩) ?_
  case hokz =>
    simp only [tsH, List.cons_append, List.nil_append, List.all_cons, List.all_nil, Bool.and_true, Bool.and_eq_true]
    exact ⟨recC_all rfl (hL5.all fun _ => rfl) rfl, rfl, rfl, rfl, rfl, rfl, rfl, rfl, rfl, rfl, rfl, rfl, rfl, rfl, rfl, rfl, rfl, rfl, rfl, rfl, rfl, rfl, rfl, rfl, rfl, rfl, rfl, rfl, rfl, rfl, rfl, rfl, rfl, rfl, rfl, rfl, rfl, rfl, rfl, rfl, rowL_all fun _ => rfl, rfl, rfl, rfl, rfl, rfl, rfl, rfl, rfl, rfl, rfl, rowW_all fun _ => rfl⟩
  intro x hx Rx hRx
  have ei : IntKind.i64.wrap ((x : Int) + 1) = ((x + 1 : Nat) : Int) := by rw [wrap64 (by omega) (by omega)]; rfl
  conv => whnf
  refine Bif.of (fun hc => ?_) fun hc => ?_
  · have hlt : x < 160 := by have h := of_decide_eq_true hc; omega
    rw [hc]
    have hFx := hF x hlt
    by_cases hcw : wI 1 P g 16 x = true
    · rw [if_pos hcw] at hFx
      conv => whnf
      refine Req.of ?_ ?_
      · (rw [Bool.and_eq_true]; exact ⟨decide_eq_true (by omega), decide_eq_true (by omega)⟩)
      conv => whnf
      with_reducible refine getF_rowL x (by show 0 + (x : Int).toNat * 1 = x; omega) hlt ?_
      conv => whnf
      rw [hFx]
      conv => whnf
      refine Req.of ?_ ?_
      · (rw [Bool.and_eq_true]; exact ⟨decide_eq_true (by omega), decide_eq_true (by omega)⟩)
      conv => whnf
      with_reducible refine getF_rowW x (by show 0 + (x : Int).toNat * 1 = x; omega) hlt ?_
      conv => whnf
      rw [hcw]
      conv => whnf
      refine Req.of ?_ ?_
      · (rw [Bool.and_eq_true]; exact ⟨decide_eq_true (by omega), decide_eq_true (by omega)⟩)
      conv => whnf
      with_reducible refine getF_rowL x (by show 0 + (x : Int).toNat * 1 = x; omega) hlt ?_
      conv => whnf
      rw [hFx]
      conv => whnf
      (rw [ei]; exact hRx (x + 1) _ _ [] rfl rfl (by omega) (by omega))
    · have hcw2 : wI 1 P g 16 x = false := by simpa using hcw
      rw [if_neg hcw] at hFx
      conv => whnf
      refine Req.of ?_ ?_
      · (rw [Bool.and_eq_true]; exact ⟨decide_eq_true (by omega), decide_eq_true (by omega)⟩)
      conv => whnf
      with_reducible refine getF_rowL x (by show 0 + (x : Int).toNat * 1 = x; omega) hlt ?_
      conv => whnf
      rw [hFx]
      conv => whnf
      refine Req.of ?_ ?_
      · (rw [Bool.and_eq_true]; exact ⟨decide_eq_true (by omega), decide_eq_true (by omega)⟩)
      conv => whnf
      with_reducible refine getF_rowW x (by show 0 + (x : Int).toNat * 1 = x; omega) hlt ?_
      conv => whnf
      rw [hcw2]
      conv => whnf
      refine Req.of ?_ ?_
      · (rw [Bool.and_eq_true]; exact ⟨decide_eq_true (by omega), decide_eq_true (by omega)⟩)
      conv => whnf
      with_reducible refine getF_rowL x (by show 0 + (x : Int).toNat * 1 = x; omega) hlt ?_
      conv => whnf
      rw [hFx]
      conv => whnf
      refine Req.of ?_ ?_
      · (rw [Bool.and_eq_true]; exact ⟨decide_eq_true (by omega), decide_eq_true (by omega)⟩)
      conv => whnf
      with_reducible refine getF_rowL x (by show 0 + (x : Int).toNat * 1 = x; omega) hlt ?_
      conv => whnf
      rw [hFx]
      conv => whnf
      (rw [ei]; exact hRx (x + 1) _ _ [] rfl rfl (by omega) (by omega))
  · rw [hc]
    clear hRx
    conv => whnf
theorem tcop_2 (g u y : Int) (hg : 0 ≤ g ∧ g ≤ 255) (hk : (IntKind.i64.wrap u).tmod 8 = 2) (P : Nat) (hP : P < 160) (hy : (IntKind.i64.wrap y).tmod 160 = (P : Int))
    (a0 a1 a2 a3 a4 a5 : TS) (s0 : a0.Top) (s1 : a1.Top) (s2 : a2.Top) (s3 : a3.Top) (s4 : a4.Top) (s5 : a5.Top) (F : Nat → Int) (A : Array Value) (hA : A.toList = rowL .u8 F 160)
    (k0 : ACalls Tryz.prog 7 [.int .i64 ((68 + P : Nat) : Int)] [] fun v H => v = .pointer (some ⟨0, 0, none⟩) ∧ H = tsH a0)
    (k1 : ACalls Tryz.prog 8 [.pointer (some ⟨0, 0, none⟩), .int .u16 16, .int .u8 0] (tsH a0) fun r H => r = .tuple #[] ∧ H = tsH a1)
    (k2 : ACalls Tryz.prog 8 [.pointer (some ⟨0, 0, none⟩), .int .u16 4, .int .u8 u] (tsH a1) fun r H => r = .tuple #[] ∧ H = tsH a2)
    (k3 : ACalls Tryz.prog 8 [.pointer (some ⟨0, 0, none⟩), .int .u16 6, .int .u8 68] (tsH a2) fun r H => r = .tuple #[] ∧ H = tsH a3)
    (k4 : ACalls Tryz.prog 8 [.pointer (some ⟨0, 0, none⟩), .int .u16 27, .int .u8 g] (tsH a3) fun r H => r = .tuple #[] ∧ H = tsH a4)
    (k5 : ACalls Tryz.prog 9 [.pointer (some ⟨0, 0, none⟩)] (tsH (stpI 456 a4)) fun v H => v = .agg A ∧ H = tsH a5)
    (hF : ∀ x, x < 160 → F x = if wI 2 P g 16 x then 68 else 0) :
    ACalls Tryz.prog 4 [.int .u8 g, .int .u8 u, .int .u8 y] [] fun v _ => v = .bool true := by
  have hL0 := s0.L
  have hL1 := s1.L
  have hL2 := s2.L
  have hL3 := s3.L
  have hL4 := s4.L
  have hL5 := s5.L
  have hnew : (IntKind.i64.wrap (68 + (IntKind.i64.wrap y).tmod 160)).tmod 228 = ((68 + P : Nat) : Int) := by
    rw [hy, wrap64 (by omega) (by omega), Int.tmod_eq_emod_of_nonneg (by omega)]; omega
  refine ACalls.code tabOk h4 Tryz.func4 Tryz.call4 ok4 ?_
  conv => whnf
  refine ACalls.useE (t_draws) [] rfl (by (conv => whnf); first | done | rfl | (refine renL_rec hL0.flat ?_; (conv => whnf); first | done | rfl) | (refine renL_rec hL1.flat ?_; (conv => whnf); first | done | rfl) | (refine renL_rec hL2.flat ?_; (conv => whnf); first | done | rfl) | (refine renL_rec hL3.flat ?_; (conv => whnf); first | done | rfl) | (refine renL_rec hL4.flat ?_; (conv => whnf); first | done | rfl)) (by (conv => whnf); try rfl) ?_
  conv => whnf
  rw [hnew]
  refine ACalls.useE (k0) [] rfl (by (conv => whnf); first | done | rfl | (refine renL_rec hL0.flat ?_; (conv => whnf); first | done | rfl) | (refine renL_rec hL1.flat ?_; (conv => whnf); first | done | rfl) | (refine renL_rec hL2.flat ?_; (conv => whnf); first | done | rfl) | (refine renL_rec hL3.flat ?_; (conv => whnf); first | done | rfl) | (refine renL_rec hL4.flat ?_; (conv => whnf); first | done | rfl)) (by (conv => whnf); try rfl) ?_
  conv => whnf
  refine renL_rec hL0.flat ?_
  conv => whnf
  refine ACalls.useE (k1) [0, 1, 2, 3, 4, 5, 6, 7, 8, 9, 10, 11, 12, 13, 14, 15, 16, 17, 18, 19, 20, 21, 22, 23, 24, 25, 26, 27, 28, 29, 30, 31, 32, 33, 34, 35, 36, 37, 38, 39] rfl (by (conv => whnf); first | done | rfl | (refine renL_rec hL0.flat ?_; (conv => whnf); first | done | rfl) | (refine renL_rec hL1.flat ?_; (conv => whnf); first | done | rfl) | (refine renL_rec hL2.flat ?_; (conv => whnf); first | done | rfl) | (refine renL_rec hL3.flat ?_; (conv => whnf); first | done | rfl) | (refine renL_rec hL4.flat ?_; (conv => whnf); first | done | rfl)) (by (conv => whnf); try rfl) ?_
  conv => whnf
  refine renL_rec hL1.flat ?_
  conv => whnf
  refine ACalls.useE (k2) [0, 1, 2, 3, 4, 5, 6, 7, 8, 9, 10, 11, 12, 13, 14, 15, 16, 17, 18, 19, 20, 21, 22, 23, 24, 25, 26, 27, 28, 29, 30, 31, 32, 33, 34, 35, 36, 37, 38, 39] rfl (by (conv => whnf); first | done | rfl | (refine renL_rec hL0.flat ?_; (conv => whnf); first | done | rfl) | (refine renL_rec hL1.flat ?_; (conv => whnf); first | done | rfl) | (refine renL_rec hL2.flat ?_; (conv => whnf); first | done | rfl) | (refine renL_rec hL3.flat ?_; (conv => whnf); first | done | rfl) | (refine renL_rec hL4.flat ?_; (conv => whnf); first | done | rfl)) (by (conv => whnf); try rfl) ?_
  conv => whnf
  refine renL_rec hL2.flat ?_
  conv => whnf
  refine ACalls.useE (k3) [0, 1, 2, 3, 4, 5, 6, 7, 8, 9, 10, 11, 12, 13, 14, 15, 16, 17, 18, 19, 20, 21, 22, 23, 24, 25, 26, 27, 28, 29, 30, 31, 32, 33, 34, 35, 36, 37, 38, 39] rfl (by (conv => whnf); first | done | rfl | (refine renL_rec hL0.flat ?_; (conv => whnf); first | done | rfl) | (refine renL_rec hL1.flat ?_; (conv => whnf); first | done | rfl) | (refine renL_rec hL2.flat ?_; (conv => whnf); first | done | rfl) | (refine renL_rec hL3.flat ?_; (conv => whnf); first | done | rfl) | (refine renL_rec hL4.flat ?_; (conv => whnf); first | done | rfl)) (by (conv => whnf); try rfl) ?_
  conv => whnf
  refine renL_rec hL3.flat ?_
  conv => whnf
  refine ACalls.useE (k4) [0, 1, 2, 3, 4, 5, 6, 7, 8, 9, 10, 11, 12, 13, 14, 15, 16, 17, 18, 19, 20, 21, 22, 23, 24, 25, 26, 27, 28, 29, 30, 31, 32, 33, 34, 35, 36, 37, 38, 39] rfl (by (conv => whnf); first | done | rfl | (refine renL_rec hL0.flat ?_; (conv => whnf); first | done | rfl) | (refine renL_rec hL1.flat ?_; (conv => whnf); first | done | rfl) | (refine renL_rec hL2.flat ?_; (conv => whnf); first | done | rfl) | (refine renL_rec hL3.flat ?_; (conv => whnf); first | done | rfl) | (refine renL_rec hL4.flat ?_; (conv => whnf); first | done | rfl)) (by (conv => whnf); try rfl) ?_
  conv => whnf
  refine renL_rec hL4.flat ?_
  conv => whnf
  refine ALoop.fd (σ := Nat) (fun i => [.int .u8 g, .int .u8 u, .int .u8 y, .chan none, .chan none, .chan none, .chan none, .pointer (some ⟨0, 0, none⟩), .int .i64 i, .chan none, .chan none, .chan none, .chan none, .chan none, .chan none, .chan none, .chan none, .chan none, .chan none, .chan none, .chan none, .chan none, .chan none, .chan none, .chan none, .chan none, .chan none, .chan none, .chan none, .chan none, .chan none, .chan none, .chan none, .chan none, .chan none, .chan none, .chan none, .chan none, .chan none, .chan none, .chan none, .chan none, .chan none, .chan none, .chan none, .chan none, .chan none, .chan none, .chan none, .chan none, .chan none, .chan none, .chan none, .chan none, .chan none, .chan none, .chan none, .chan none, .chan none, .chan none, .chan none, .chan none, .chan none, .chan none, .chan none, .chan none, .chan none, .chan none, .chan none, .chan none, .chan none, .chan none, .chan none, .chan none, .chan none, .chan none, .chan none, .chan none, .chan none, .chan none, .chan none, .chan none, .chan none, .chan none, .chan none, .chan none, .chan none, .chan none, .chan none, .chan none, .chan none, .chan none, .chan none, .chan none, .chan none, .chan none, .chan none, .chan none, .chan none, .chan none, .chan none, .chan none, .chan none, .chan none, .chan none, .chan none, .chan none, .chan none, .chan none, .chan none, .chan none, .chan none, .chan none, .chan none, .chan none, .chan none, .chan none, .chan none, .chan none, .chan none, .chan none, .chan none, .chan none]) (fun i => tsH (stpI i a4)) (fun i => i ≤ 456) (fun i => 456 - i) 0 [] rfl (by rw [stpI_zero]; rfl) (by omega) (fun i => ⟨rfl, rfl, ?hok, rfl⟩) ?_
  case hok =>
    simp only [tsH, List.all_cons, List.all_nil, Bool.and_true, Bool.and_eq_true]
    exact ⟨recC_all rfl ((stpI_top s4 i).L.all fun _ => rfl) rfl, rfl, rfl, rfl, rfl, rfl, rfl, rfl, rfl, rfl, rfl, rfl, rfl, rfl, rfl, rfl, rfl, rfl, rfl, rfl, rfl, rfl, rfl, rfl, rfl, rfl, rfl, rfl, rfl, rfl, rfl, rfl, rfl, rfl, rfl, rfl, rfl, rfl, rfl, rfl⟩
  clear k0 k1 k2 k3 k4 hL0 hL1 hL2 hL3 hnew
  intro i hi RR hR
  have hsi := stpI_top s4 i
  have hLi := hsi.L
  have hLn := (stpI_top s4 (i + 1)).L
  have ei : IntKind.i64.wrap ((i : Int) + 1) = ((i + 1 : Nat) : Int) := by rw [wrap64 (by omega) (by omega)]; rfl
  conv => whnf
  refine Bif.of (fun hc => ?_) fun hc => ?_
  · have hlt : i < 456 := by have := of_decide_eq_true hc; omega
    have hs2 : stp (stpI i a4) = stpI (i + 1) a4 := stpI_succ rfl
    rw [hc]
    conv => whnf
    refine ACalls.useE (t_stepQ _ hsi) [0, 1, 2, 3, 4, 5, 6, 7, 8, 9, 10, 11, 12, 13, 14, 15, 16, 17, 18, 19, 20, 21, 22, 23, 24, 25, 26, 27, 28, 29, 30, 31, 32, 33, 34, 35, 36, 37, 38, 39] rfl (by (conv => whnf); first | done | rfl | (refine renL_rec hLi.flat ?_; (conv => whnf); first | done | rfl)) (by (conv => whnf); try rfl) ?_
    conv => whnf
    rw [hs2]
    conv => whnf
    refine renL_rec hLn.flat ?_
    conv => whnf
    (rw [ei]; exact hR (i + 1) _ _ [] rfl rfl (by omega) (by omega))
  have hi0 : i = 456 := by have := of_decide_eq_false hc; omega
  rw [hc]
  subst hi0
  clear hR ei hLn hi hc
  generalize stpI 456 a4 = z at *
  conv => whnf
  refine ACalls.useE (k5) [0, 1, 2, 3, 4, 5, 6, 7, 8, 9, 10, 11, 12, 13, 14, 15, 16, 17, 18, 19, 20, 21, 22, 23, 24, 25, 26, 27, 28, 29, 30, 31, 32, 33, 34, 35, 36, 37, 38, 39] rfl (by (conv => whnf); first | done | rfl | (refine renL_rec hLi.flat ?_; (conv => whnf); first | done | rfl)) (by (conv => whnf); try rfl) ?_
  conv => whnf
  refine renL_rec hL5.flat ?_
  conv => whnf
  with_reducible refine renL_arr hA ?_
  conv => whnf
  refine Req.of ?_ ?_
  · exact arr_fits hA rfl fun _ => rfl
  conv => whnf
  (with_reducible refine putF_arr hA ?hl ?_; case' hl => exact List.length_replicate ..)
  conv => whnf
  rw [hk]
  conv => whnf
  clear k5 hLi hsi s4 hL4 a0 a1 a2 a3 s0 s1 s2 s3
  refine ALoop.run 3 ?_
  conv => whnf

  refine ALoop.fd (σ := Nat) (fun d => [.int .u8 g, .int .u8 u, .int .u8 y, .chan none, .chan none, .chan none, .chan none, .pointer (some ⟨0, 0, none⟩), .chan none, .pointer (some ⟨40, 0, none⟩), .pointer (some ⟨41, 0, none⟩), .pointer (some ⟨50, 0, none⟩), .int .i64 2, .int .i64 5, .pointer (some ⟨51, 0, none⟩), .int .i64 0, .int .i64 d, .chan none, .chan none, .chan none, .chan none, .chan none, .chan none, .chan none, .chan none, .chan none, .chan none, .chan none, .chan none, .chan none, .chan none, .chan none, .chan none, .chan none, .chan none, .chan none, .chan none, .chan none, .chan none, .chan none, .chan none, .chan none, .chan none, .chan none, .chan none, .chan none, .chan none, .chan none, .chan none, .chan none, .chan none, .chan none, .chan none, .chan none, .chan none, .chan none, .chan none, .chan none, .chan none, .chan none, .chan none, .chan none, .chan none, .chan none, .chan none, .chan none, .chan none, .chan none, .chan none, .chan none, .chan none, .chan none, .chan none, .chan none, .chan none, .chan none, .chan none, .chan none, .chan none, .chan none, .chan none, .chan none, .chan none, .chan none, .chan none, .chan none, .chan none, .chan none, .chan none, .chan none, .chan none, .chan none, .chan none, .chan none, .chan none, .chan none, .chan none, .chan none, .chan none, .chan none, .chan none, .chan none, .chan none, .chan none, .chan none, .chan none, .chan none, .chan none, .chan none, .chan none, .chan none, .chan none, .chan none, .chan none, .chan none, .chan none, .chan none, .chan none, .chan none, .chan none, .chan none, .chan none, .chan none]) (fun d => tsH a5 ++ [.cells (rowL .u8 F 160) 29, .cells [.int .i64 1, .int .i64 1, .int .i64 1, .int .i64 1, .int .i64 1, .int .i64 2, .int .i64 1, .int .i64 4] 38, .cells [.int .i64 0] 3, .cells [.int .i64 0, .int .i64 16] 3, .cells [.int .i64 0, .int .i64 32] 3, .cells [.int .i64 0, .int .i64 16, .int .i64 32] 3, .cells [.int .i64 0, .int .i64 64] 3, .cells [.int .i64 0] 3, .cells [.int .i64 0, .int .i64 32, .int .i64 64] 3, .cells [.int .i64 0] 3, .cells [.slice (some ⟨42, 0, none⟩) 1 1, .slice (some ⟨43, 0, none⟩) 2 2, .slice (some ⟨44, 0, none⟩) 2 2, .slice (some ⟨45, 0, none⟩) 3 3, .slice (some ⟨46, 0, none⟩) 2 2, .slice (some ⟨47, 0, none⟩) 1 1, .slice (some ⟨48, 0, none⟩) 3 3, .slice (some ⟨49, 0, none⟩) 1 1] 40, .cells (rowW (wI 2 P g (8 * 0 + d))) 41]) (fun d => d ≤ 8) (fun d => 8 - d) 0 [] rfl (by rw [show 8 * 0 + 0 = 0 from rfl, wI_zero, ← rowW_zero]; rfl) (by omega) (fun d => ⟨rfl, rfl, ?hok0, rfl⟩) ?_
  case hok0 =>
    simp only [tsH, List.cons_append, List.nil_append, List.all_cons, List.all_nil, Bool.and_true, Bool.and_eq_true]
    exact ⟨recC_all rfl (hL5.all fun _ => rfl) rfl, rfl, rfl, rfl, rfl, rfl, rfl, rfl, rfl, rfl, rfl, rfl, rfl, rfl, rfl, rfl, rfl, rfl, rfl, rfl, rfl, rfl, rfl, rfl, rfl, rfl, rfl, rfl, rfl, rfl, rfl, rfl, rfl, rfl, rfl, rfl, rfl, rfl, rfl, rfl, rowL_all fun _ => rfl, rfl, rfl, rfl, rfl, rfl, rfl, rfl, rfl, rfl, rfl, rowW_all fun _ => rfl⟩
  intro d0 hd R0 hR0
  have ei : IntKind.i64.wrap ((d0 : Int) + 1) = ((d0 + 1 : Nat) : Int) := by rw [wrap64 (by omega) (by omega)]; rfl
  have em : IntKind.i64.wrap (8 * 1) = 8 := by decide
  conv => whnf
  refine Bif.of (fun hc => ?_) fun hc => ?_
  · have hlt : d0 < 8 := by have h := of_decide_eq_true hc; omega
    rw [hc]
    have hraw : (IntKind.i64.wrap (IntKind.i64.wrap (IntKind.i64.wrap ((IntKind.i64.wrap y).tmod 160 + 0) + 5) + (d0 : Int))).tmod 160 = (((P + 0 + 5 + d0) % 160 : Nat) : Int) := by
      rw [hy, wrap64 (n := (P : Int) + 0) (by omega) (by omega), wrap64 (n := (P : Int) + 0 + 5) (by omega) (by omega), wrap64 (by omega) (by omega), Int.tmod_eq_emod_of_nonneg (by omega)]; omega
    have hix : (P + 0 + 5 + d0) % 160 < 160 := Nat.mod_lt _ (by decide)
    by_cases hgr : graphI g false 1 (d0 : Nat) = true
    · have hst : wI 2 P g (8 * 0 + (d0 + 1)) = fun j => wI 2 P g (8 * 0 + d0) j || decide (j = (P + 0 + 5 + d0) % 160) := wI_t (c := 8 * 0 + d0) rfl rfl hlt rfl rfl hgr
      generalize (P + 0 + 5 + d0) % 160 = ix at *
      conv => whnf
      refine ACalls.useE (field_graph _ _ _ _ hg ?_) [] rfl (by (conv => whnf); try rfl) (by (conv => whnf); try rfl) ?_
      · omega
      conv => whnf
      rw [hgr]
      conv => whnf
      rw [hraw]
      conv => whnf
      refine Req.of ?_ ?_
      · (rw [Bool.and_eq_true]; exact ⟨decide_eq_true (by omega), decide_eq_true (by omega)⟩)
      conv => whnf
      with_reducible refine putF_rowW ix (by show 0 + ((ix : Nat) : Int).toNat * 1 = ix; omega) hix hst ?_
      conv => whnf
      (rw [ei]; exact hR0 (d0 + 1) _ _ [] rfl rfl (by omega) (by omega))
    · have hgr2 : graphI g false 1 (d0 : Nat) = false := by simpa using hgr
      have hst : wI 2 P g (8 * 0 + (d0 + 1)) = wI 2 P g (8 * 0 + d0) := wI_f (c := 8 * 0 + d0) rfl rfl hlt rfl rfl hgr2
      conv => whnf
      refine ACalls.useE (field_graph _ _ _ _ hg ?_) [] rfl (by (conv => whnf); try rfl) (by (conv => whnf); try rfl) ?_
      · omega
      conv => whnf
      rw [hgr2]
      conv => whnf
      (rw [ei]; exact hR0 (d0 + 1) _ _ [] rfl (by rw [hst]; rfl) (by omega) (by omega))
  have hd0 : d0 = 8 := by have h := of_decide_eq_false hc; omega
  rw [hc]
  subst hd0
  clear hR0 ei hc hd
  conv => whnf

  refine ALoop.fd (σ := Nat) (fun d => [.int .u8 g, .int .u8 u, .int .u8 y, .chan none, .chan none, .chan none, .chan none, .pointer (some ⟨0, 0, none⟩), .chan none, .pointer (some ⟨40, 0, none⟩), .pointer (some ⟨41, 0, none⟩), .pointer (some ⟨50, 0, none⟩), .int .i64 2, .int .i64 5, .pointer (some ⟨51, 0, none⟩), .int .i64 1, .int .i64 d, .chan none, .chan none, .chan none, .chan none, .chan none, .chan none, .chan none, .chan none, .chan none, .chan none, .chan none, .chan none, .chan none, .chan none, .chan none, .chan none, .chan none, .chan none, .chan none, .chan none, .chan none, .chan none, .chan none, .chan none, .chan none, .chan none, .chan none, .chan none, .chan none, .chan none, .chan none, .chan none, .chan none, .chan none, .chan none, .chan none, .chan none, .chan none, .chan none, .chan none, .chan none, .chan none, .chan none, .chan none, .chan none, .chan none, .chan none, .chan none, .chan none, .chan none, .chan none, .chan none, .chan none, .chan none, .chan none, .chan none, .chan none, .chan none, .chan none, .chan none, .chan none, .chan none, .chan none, .chan none, .chan none, .chan none, .chan none, .chan none, .chan none, .chan none, .chan none, .chan none, .chan none, .chan none, .chan none, .chan none, .chan none, .chan none, .chan none, .chan none, .chan none, .chan none, .chan none, .chan none, .chan none, .chan none, .chan none, .chan none, .chan none, .chan none, .chan none, .chan none, .chan none, .chan none, .chan none, .chan none, .chan none, .chan none, .chan none, .chan none, .chan none, .chan none, .chan none, .chan none, .chan none, .chan none]) (fun d => tsH a5 ++ [.cells (rowL .u8 F 160) 29, .cells [.int .i64 1, .int .i64 1, .int .i64 1, .int .i64 1, .int .i64 1, .int .i64 2, .int .i64 1, .int .i64 4] 38, .cells [.int .i64 0] 3, .cells [.int .i64 0, .int .i64 16] 3, .cells [.int .i64 0, .int .i64 32] 3, .cells [.int .i64 0, .int .i64 16, .int .i64 32] 3, .cells [.int .i64 0, .int .i64 64] 3, .cells [.int .i64 0] 3, .cells [.int .i64 0, .int .i64 32, .int .i64 64] 3, .cells [.int .i64 0] 3, .cells [.slice (some ⟨42, 0, none⟩) 1 1, .slice (some ⟨43, 0, none⟩) 2 2, .slice (some ⟨44, 0, none⟩) 2 2, .slice (some ⟨45, 0, none⟩) 3 3, .slice (some ⟨46, 0, none⟩) 2 2, .slice (some ⟨47, 0, none⟩) 1 1, .slice (some ⟨48, 0, none⟩) 3 3, .slice (some ⟨49, 0, none⟩) 1 1] 40, .cells (rowW (wI 2 P g (8 * 1 + d))) 41]) (fun d => d ≤ 8) (fun d => 8 - d) 0 [] rfl rfl (by omega) (fun d => ⟨rfl, rfl, ?hok1, rfl⟩) ?_
  case hok1 =>
    simp only [tsH, List.cons_append, List.nil_append, List.all_cons, List.all_nil, Bool.and_true, Bool.and_eq_true]
    exact ⟨recC_all rfl (hL5.all fun _ => rfl) rfl, rfl, rfl, rfl, rfl, rfl, rfl, rfl, rfl, rfl, rfl, rfl, rfl, rfl, rfl, rfl, rfl, rfl, rfl, rfl, rfl, rfl, rfl, rfl, rfl, rfl, rfl, rfl, rfl, rfl, rfl, rfl, rfl, rfl, rfl, rfl, rfl, rfl, rfl, rfl, rowL_all fun _ => rfl, rfl, rfl, rfl, rfl, rfl, rfl, rfl, rfl, rfl, rfl, rowW_all fun _ => rfl⟩
  intro d1 hd R1 hR1
  have ei : IntKind.i64.wrap ((d1 : Int) + 1) = ((d1 + 1 : Nat) : Int) := by rw [wrap64 (by omega) (by omega)]; rfl
  have em : IntKind.i64.wrap (8 * 1) = 8 := by decide
  conv => whnf
  refine Bif.of (fun hc => ?_) fun hc => ?_
  · have hlt : d1 < 8 := by have h := of_decide_eq_true hc; omega
    rw [hc]
    have hraw : (IntKind.i64.wrap (IntKind.i64.wrap (IntKind.i64.wrap ((IntKind.i64.wrap y).tmod 160 + 32) + 5) + (d1 : Int))).tmod 160 = (((P + 32 + 5 + d1) % 160 : Nat) : Int) := by
      rw [hy, wrap64 (n := (P : Int) + 32) (by omega) (by omega), wrap64 (n := (P : Int) + 32 + 5) (by omega) (by omega), wrap64 (by omega) (by omega), Int.tmod_eq_emod_of_nonneg (by omega)]; omega
    have hix : (P + 32 + 5 + d1) % 160 < 160 := Nat.mod_lt _ (by decide)
    by_cases hgr : graphI g false 1 (d1 : Nat) = true
    · have hst : wI 2 P g (8 * 1 + (d1 + 1)) = fun j => wI 2 P g (8 * 1 + d1) j || decide (j = (P + 32 + 5 + d1) % 160) := wI_t (c := 8 * 1 + d1) rfl rfl hlt rfl rfl hgr
      generalize (P + 32 + 5 + d1) % 160 = ix at *
      conv => whnf
      refine ACalls.useE (field_graph _ _ _ _ hg ?_) [] rfl (by (conv => whnf); try rfl) (by (conv => whnf); try rfl) ?_
      · omega
      conv => whnf
      rw [hgr]
      conv => whnf
      rw [hraw]
      conv => whnf
      refine Req.of ?_ ?_
      · (rw [Bool.and_eq_true]; exact ⟨decide_eq_true (by omega), decide_eq_true (by omega)⟩)
      conv => whnf
      with_reducible refine putF_rowW ix (by show 0 + ((ix : Nat) : Int).toNat * 1 = ix; omega) hix hst ?_
      conv => whnf
      (rw [ei]; exact hR1 (d1 + 1) _ _ [] rfl rfl (by omega) (by omega))
    · have hgr2 : graphI g false 1 (d1 : Nat) = false := by simpa using hgr
      have hst : wI 2 P g (8 * 1 + (d1 + 1)) = wI 2 P g (8 * 1 + d1) := wI_f (c := 8 * 1 + d1) rfl rfl hlt rfl rfl hgr2
      conv => whnf
      refine ACalls.useE (field_graph _ _ _ _ hg ?_) [] rfl (by (conv => whnf); try rfl) (by (conv => whnf); try rfl) ?_
      · omega
      conv => whnf
      rw [hgr2]
      conv => whnf
      (rw [ei]; exact hR1 (d1 + 1) _ _ [] rfl (by rw [hst]; rfl) (by omega) (by omega))
  have hd0 : d1 = 8 := by have h := of_decide_eq_false hc; omega
  rw [hc]
  subst hd0
  clear hR1 ei hc hd
  conv => whnf

  refine ALoop.fd (σ := Nat) (fun x => [.int .u8 g, .int .u8 u, .int .u8 y, .chan none, .chan none, .chan none, .chan none, .pointer (some ⟨0, 0, none⟩), .chan none, .pointer (some ⟨40, 0, none⟩), .chan none, .chan none, .chan none, .chan none, .pointer (some ⟨51, 0, none⟩), .chan none, .chan none, .int .i64 x, .chan none, .chan none, .chan none, .chan none, .chan none, .chan none, .chan none, .chan none, .chan none, .chan none, .chan none, .chan none, .chan none, .chan none, .chan none, .chan none, .chan none, .chan none, .chan none, .chan none, .chan none, .chan none, .chan none, .chan none, .chan none, .chan none, .chan none, .chan none, .chan none, .chan none, .chan none, .chan none, .chan none, .chan none, .chan none, .chan none, .chan none, .chan none, .chan none, .chan none, .chan none, .chan none, .chan none, .chan none, .chan none, .chan none, .chan none, .chan none, .chan none, .chan none, .chan none, .chan none, .chan none, .chan none, .chan none, .chan none, .chan none, .chan none, .chan none, .chan none, .chan none, .chan none, .chan none, .chan none, .chan none, .chan none, .chan none, .chan none, .chan none, .chan none, .chan none, .chan none, .chan none, .chan none, .chan none, .chan none, .chan none, .chan none, .chan none, .chan none, .chan none, .chan none, .chan none, .chan none, .chan none, .chan none, .chan none, .chan none, .chan none, .chan none, .chan none, .chan none, .chan none, .chan none, .chan none, .chan none, .chan none, .chan none, .chan none, .chan none, .chan none, .chan none, .chan none, .chan none, .chan none]) (fun x => tsH a5 ++ [.cells (rowL .u8 F 160) 29, .cells [.int .i64 1, .int .i64 1, .int .i64 1, .int .i64 1, .int .i64 1, .int .i64 2, .int .i64 1, .int .i64 4] 38, .cells [.int .i64 0] 3, .cells [.int .i64 0, .int .i64 16] 3, .cells [.int .i64 0, .int .i64 32] 3, .cells [.int .i64 0, .int .i64 16, .int .i64 32] 3, .cells [.int .i64 0, .int .i64 64] 3, .cells [.int .i64 0] 3, .cells [.int .i64 0, .int .i64 32, .int .i64 64] 3, .cells [.int .i64 0] 3, .cells [.slice (some ⟨42, 0, none⟩) 1 1, .slice (some ⟨43, 0, none⟩) 2 2, .slice (some ⟨44, 0, none⟩) 2 2, .slice (some ⟨45, 0, none⟩) 3 3, .slice (some ⟨46, 0, none⟩) 2 2, .slice (some ⟨47, 0, none⟩) 1 1, .slice (some ⟨48, 0, none⟩) 3 3, .slice (some ⟨49, 0, none⟩) 1 1] 40, .cells (rowW (wI 2 P g 16)) 41]) (fun x => x ≤ 160) (fun x => 160 - x) 0 [] rfl rfl (by omega) (fun x => ⟨rfl, rfl, ?hokz, rfl⟩) ?_
  case hokz =>
    simp only [tsH, List.cons_append, List.nil_append, List.all_cons, List.all_nil, Bool.and_true, Bool.and_eq_true]
    exact ⟨recC_all rfl (hL5.all fun _ => rfl) rfl, rfl, rfl, rfl, rfl, rfl, rfl, rfl, rfl, rfl, rfl, rfl, rfl, rfl, rfl, rfl, rfl, rfl, rfl, rfl, rfl, rfl, rfl, rfl, rfl, rfl, rfl, rfl, rfl, rfl, rfl, rfl, rfl, rfl, rfl, rfl, rfl, rfl, rfl, rfl, rowL_all fun _ => rfl, rfl, rfl, rfl, rfl, rfl, rfl, rfl, rfl, rfl, rfl, rowW_all fun _ => rfl⟩
  intro x hx Rx hRx
  have ei : IntKind.i64.wrap ((x : Int) + 1) = ((x + 1 : Nat) : Int) := by rw [wrap64 (by omega) (by omega)]; rfl
  conv => whnf
  refine Bif.of (fun hc => ?_) fun hc => ?_
  · have hlt : x < 160 := by have h := of_decide_eq_true hc; omega
    rw [hc]
    have hFx := hF x hlt
    by_cases hcw : wI 2 P g 16 x = true
    · rw [if_pos hcw] at hFx
      conv => whnf
      refine Req.of ?_ ?_
      · (rw [Bool.and_eq_true]; exact ⟨decide_eq_true (by omega), decide_eq_true (by omega)⟩)
      conv => whnf
      with_reducible refine getF_rowL x (by show 0 + (x : Int).toNat * 1 = x; omega) hlt ?_
      conv => whnf
      rw [hFx]
      conv => whnf
      refine Req.of ?_ ?_
      · (rw [Bool.and_eq_true]; exact ⟨decide_eq_true (by omega), decide_eq_true (by omega)⟩)
      conv => whnf
      with_reducible refine getF_rowW x (by show 0 + (x : Int).toNat * 1 = x; omega) hlt ?_
      conv => whnf
      rw [hcw]
      conv => whnf
      refine Req.of ?_ ?_
      · (rw [Bool.and_eq_true]; exact ⟨decide_eq_true (by omega), decide_eq_true (by omega)⟩)
      conv => whnf
      with_reducible refine getF_rowL x (by show 0 + (x : Int).toNat * 1 = x; omega) hlt ?_
      conv => whnf
      rw [hFx]
      conv => whnf
      (rw [ei]; exact hRx (x + 1) _ _ [] rfl rfl (by omega) (by omega))
    · have hcw2 : wI 2 P g 16 x = false := by simpa using hcw
      rw [if_neg hcw] at hFx
      conv => whnf
      refine Req.of ?_ ?_
      · (rw [Bool.and_eq_true]; exact ⟨decide_eq_true (by omega), decide_eq_true (by omega)⟩)
      conv => whnf
      with_reducible refine getF_rowL x (by show 0 + (x : Int).toNat * 1 = x; omega) hlt ?_
      conv => whnf
      rw [hFx]
      conv => whnf
      refine Req.of ?_ ?_
      · (rw [Bool.and_eq_true]; exact ⟨decide_eq_true (by omega), decide_eq_true (by omega)⟩)
      conv => whnf
      with_reducible refine getF_rowW x (by show 0 + (x : Int).toNat * 1 = x; omega) hlt ?_
      conv => whnf
      rw [hcw2]
      conv => whnf
      refine Req.of ?_ ?_
      · (rw [Bool.and_eq_true]; exact ⟨decide_eq_true (by omega), decide_eq_true (by omega)⟩)
      conv => whnf
      with_reducible refine getF_rowL x (by show 0 + (x : Int).toNat * 1 = x; omega) hlt ?_
      conv => whnf
      rw [hFx]
      conv => whnf
      refine Req.of ?_ ?_
      · (rw [Bool.and_eq_true]; exact ⟨decide_eq_true (by omega), decide_eq_true (by omega)⟩)
      conv => whnf
      with_reducible refine getF_rowL x (by show 0 + (x : Int).toNat * 1 = x; omega) hlt ?_
      conv => whnf
      rw [hFx]
      conv => whnf
      (rw [ei]; exact hRx (x + 1) _ _ [] rfl rfl (by omega) (by omega))
  · rw [hc]
    clear hRx
    conv => whnf
theorem tcop_3 (g u y : Int) (hg : 0 ≤ g ∧ g ≤ 255) (hk : (IntKind.i64.wrap u).tmod 8 = 3) (P : Nat) (hP : P < 160) (hy : (IntKind.i64.wrap y).tmod 160 = (P : Int))
    (a0 a1 a2 a3 a4 a5 : TS) (s0 : a0.Top) (s1 : a1.Top) (s2 : a2.Top) (s3 : a3.Top) (s4 : a4.Top) (s5 : a5.Top) (F : Nat → Int) (A : Array Value) (hA : A.toList = rowL .u8 F 160)
    (k0 : ACalls Tryz.prog 7 [.int .i64 ((68 + P : Nat) : Int)] [] fun v H => v = .pointer (some ⟨0, 0, none⟩) ∧ H = tsH a0)
    (k1 : ACalls Tryz.prog 8 [.pointer (some ⟨0, 0, none⟩), .int .u16 16, .int .u8 0] (tsH a0) fun r H => r = .tuple #[] ∧ H = tsH a1)
    (k2 : ACalls Tryz.prog 8 [.pointer (some ⟨0, 0, none⟩), .int .u16 4, .int .u8 u] (tsH a1) fun r H => r = .tuple #[] ∧ H = tsH a2)
    (k3 : ACalls Tryz.prog 8 [.pointer (some ⟨0, 0, none⟩), .int .u16 6, .int .u8 68] (tsH a2) fun r H => r = .tuple #[] ∧ H = tsH a3)
    (k4 : ACalls Tryz.prog 8 [.pointer (some ⟨0, 0, none⟩), .int .u16 27, .int .u8 g] (tsH a3) fun r H => r = .tuple #[] ∧ H = tsH a4)
    (k5 : ACalls Tryz.prog 9 [.pointer (some ⟨0, 0, none⟩)] (tsH (stpI 456 a4)) fun v H => v = .agg A ∧ H = tsH a5)
    (hF : ∀ x, x < 160 → F x = if wI 3 P g 24 x then 68 else 0) :
    ACalls Tryz.prog 4 [.int .u8 g, .int .u8 u, .int .u8 y] [] fun v _ => v = .bool true := by
  have hL0 := s0.L
  have hL1 := s1.L
  have hL2 := s2.L
  have hL3 := s3.L
  have hL4 := s4.L
  have hL5 := s5.L
  have hnew : (IntKind.i64.wrap (68 + (IntKind.i64.wrap y).tmod 160)).tmod 228 = ((68 + P : Nat) : Int) := by
    rw [hy, wrap64 (by omega) (by omega), Int.tmod_eq_emod_of_nonneg (by omega)]; omega
  refine ACalls.code tabOk h4 Tryz.func4 Tryz.call4 ok4 ?_
  conv => whnf
  refine ACalls.useE (t_draws) [] rfl (by (conv => whnf); first | done | rfl | (refine renL_rec hL0.flat ?_; (conv => whnf); first | done | rfl) | (refine renL_rec hL1.flat ?_; (conv => whnf); first | done | rfl) | (refine renL_rec hL2.flat ?_; (conv => whnf); first | done | rfl) | (refine renL_rec hL3.flat ?_; (conv => whnf); first | done | rfl) | (refine renL_rec hL4.flat ?_; (conv => whnf); first | done | rfl)) (by (conv => whnf); try rfl) ?_
  conv => whnf
  rw [hnew]
  refine ACalls.useE (k0) [] rfl (by (conv => whnf); first | done | rfl | (refine renL_rec hL0.flat ?_; (conv => whnf); first | done | rfl) | (refine renL_rec hL1.flat ?_; (conv => whnf); first | done | rfl) | (refine renL_rec hL2.flat ?_; (conv => whnf); first | done | rfl) | (refine renL_rec hL3.flat ?_; (conv => whnf); first | done | rfl) | (refine renL_rec hL4.flat ?_; (conv => whnf); first | done | rfl)) (by (conv => whnf); try rfl) ?_
  conv => whnf
  refine renL_rec hL0.flat ?_
  conv => whnf
  refine ACalls.useE (k1) [0, 1, 2, 3, 4, 5, 6, 7, 8, 9, 10, 11, 12, 13, 14, 15, 16, 17, 18, 19, 20, 21, 22, 23, 24, 25, 26, 27, 28, 29, 30, 31, 32, 33, 34, 35, 36, 37, 38, 39] rfl (by (conv => whnf); first | done | rfl | (refine renL_rec hL0.flat ?_; (conv => whnf); first | done | rfl) | (refine renL_rec hL1.flat ?_; (conv => whnf); first | done | rfl) | (refine renL_rec hL2.flat ?_; (conv => whnf); first | done | rfl) | (refine renL_rec hL3.flat ?_; (conv => whnf); first | done | rfl) | (refine renL_rec hL4.flat ?_; (conv => whnf); first | done | rfl)) (by (conv => whnf); try rfl) ?_
  conv => whnf
  refine renL_rec hL1.flat ?_
  conv => whnf
  refine ACalls.useE (k2) [0, 1, 2, 3, 4, 5, 6, 7, 8, 9, 10, 11, 12, 13, 14, 15, 16, 17, 18, 19, 20, 21, 22, 23, 24, 25, 26, 27, 28, 29, 30, 31, 32, 33, 34, 35, 36, 37, 38, 39] rfl (by (conv => whnf); first | done | rfl | (refine renL_rec hL0.flat ?_; (conv => whnf); first | done | rfl) | (refine renL_rec hL1.flat ?_; (conv => whnf); first | done | rfl) | (refine renL_rec hL2.flat ?_; (conv => whnf); first | done | rfl) | (refine renL_rec hL3.flat ?_; (conv => whnf); first | done | rfl) | (refine renL_rec hL4.flat ?_; (conv => whnf); first | done | rfl)) (by (conv => whnf); try rfl) ?_
  conv => whnf
  refine renL_rec hL2.flat ?_
  conv => whnf
  refine ACalls.useE (k3) [0, 1, 2, 3, 4, 5, 6, 7, 8, 9, 10, 11, 12, 13, 14, 15, 16, 17, 18, 19, 20, 21, 22, 23, 24, 25, 26, 27, 28, 29, 30, 31, 32, 33, 34, 35, 36, 37, 38, 39] rfl (by (conv => whnf); first | done | rfl | (refine renL_rec hL0.flat ?_; (conv => whnf); first | done | rfl) | (refine renL_rec hL1.flat ?_; (conv => whnf); first | done | rfl) | (refine renL_rec hL2.flat ?_; (conv => whnf); first | done | rfl) | (refine renL_rec hL3.flat ?_; (conv => whnf); first | done | rfl) | (refine renL_rec hL4.flat ?_; (conv => whnf); first | done | rfl)) (by (conv => whnf); try rfl) ?_
  conv => whnf
  refine renL_rec hL3.flat ?_
  conv => whnf
  refine ACalls.useE (k4) [0, 1, 2, 3, 4, 5, 6, 7, 8, 9, 10, 11, 12, 13, 14, 15, 16, 17, 18, 19, 20, 21, 22, 23, 24, 25, 26, 27, 28, 29, 30, 31, 32, 33, 34, 35, 36, 37, 38, 39] rfl (by (conv => whnf); first | done | rfl | (refine renL_rec hL0.flat ?_; (conv => whnf); first | done | rfl) | (refine renL_rec hL1.flat ?_; (conv => whnf); first | done | rfl) | (refine renL_rec hL2.flat ?_; (conv => whnf); first | done | rfl) | (refine renL_rec hL3.flat ?_; (conv => whnf); first | done | rfl) | (refine renL_rec hL4.flat ?_; (conv => whnf); first | done | rfl)) (by (conv => whnf); try rfl) ?_
  conv => whnf
  refine renL_rec hL4.flat ?_
  conv => whnf
  refine ALoop.fd (σ := Nat) (fun i => [.int .u8 g, .int .u8 u, .int .u8 y, .chan none, .chan none, .chan none, .chan none, .pointer (some ⟨0, 0, none⟩), .int .i64 i, .chan none, .chan none, .chan none, .chan none, .chan none, .chan none, .chan none, .chan none, .chan none, .chan none, .chan none, .chan none, .chan none, .chan none, .chan none, .chan none, .chan none, .chan none, .chan none, .chan none, .chan none, .chan none, .chan none, .chan none, .chan none, .chan none, .chan none, .chan none, .chan none, .chan none, .chan none, .chan none, .chan none, .chan none, .chan none, .chan none, .chan none, .chan none, .chan none, .chan none, .chan none, .chan none, .chan none, .chan none, .chan none, .chan none, .chan none, .chan none, .chan none, .chan none, .chan none, .chan none, .chan none, .chan none, .chan none, .chan none, .chan none, .chan none, .chan none, .chan none, .chan none, .chan none, .chan none, .chan none, .chan none, .chan none, .chan none, .chan none, .chan none, .chan none, .chan none, .chan none, .chan none, .chan none, .chan none, .chan none, .chan none, .chan none, .chan none, .chan none, .chan none, .chan none, .chan none, .chan none, .chan none, .chan none, .chan none, .chan none, .chan none, .chan none, .chan none, .chan none, .chan none, .chan none, .chan none, .chan none, .chan none, .chan none, .chan none, .chan none, .chan none, .chan none, .chan none, .chan none, .chan none, .chan none, .chan none, .chan none, .chan none, .chan none, .chan none, .chan none, .chan none, .chan none]) (fun i => tsH (stpI i a4)) (fun i => i ≤ 456) (fun i => 456 - i) 0 [] rfl (by rw [stpI_zero]; rfl) (by omega) (fun i => ⟨rfl, rfl, ?hok, rfl⟩) ?_
  case hok =>
    simp only [tsH, List.all_cons, List.all_nil, Bool.and_true, Bool.and_eq_true]
    exact ⟨recC_all rfl ((stpI_top s4 i).L.all fun _ => rfl) rfl, rfl, rfl, rfl, rfl, rfl, rfl, rfl, rfl, rfl, rfl, rfl, rfl, rfl, rfl, rfl, rfl, rfl, rfl, rfl, rfl, rfl, rfl, rfl, rfl, rfl, rfl, rfl, rfl, rfl, rfl, rfl, rfl, rfl, rfl, rfl, rfl, rfl, rfl, rfl⟩
  clear k0 k1 k2 k3 k4 hL0 hL1 hL2 hL3 hnew
  intro i hi RR hR
  have hsi := stpI_top s4 i
  have hLi := hsi.L
  have hLn := (stpI_top s4 (i + 1)).L
  have ei : IntKind.i64.wrap ((i : Int) + 1) = ((i + 1 : Nat) : Int) := by rw [wrap64 (by omega) (by omega)]; rfl
  conv => whnf
  refine Bif.of (fun hc => ?_) fun hc => ?_
  · have hlt : i < 456 := by have := of_decide_eq_true hc; omega
    have hs2 : stp (stpI i a4) = stpI (i + 1) a4 := stpI_succ rfl
    rw [hc]
    conv => whnf
    refine ACalls.useE (t_stepQ _ hsi) [0, 1, 2, 3, 4, 5, 6, 7, 8, 9, 10, 11, 12, 13, 14, 15, 16, 17, 18, 19, 20, 21, 22, 23, 24, 25, 26, 27, 28, 29, 30, 31, 32, 33, 34, 35, 36, 37, 38, 39] rfl (by (conv => whnf); first | done | rfl | (refine renL_rec hLi.flat ?_; (conv => whnf); first | done | rfl)) (by (conv => whnf); try rfl) ?_
    conv => whnf
    rw [hs2]
    conv => whnf
    refine renL_rec hLn.flat ?_
    conv => whnf
    (rw [ei]; exact hR (i + 1) _ _ [] rfl rfl (by omega) (by omega))
  have hi0 : i = 456 := by have := of_decide_eq_false hc; omega
  rw [hc]
  subst hi0
  clear hR ei hLn hi hc
  generalize stpI 456 a4 = z at *
  conv => whnf
  refine ACalls.useE (k5) [0, 1, 2, 3, 4, 5, 6, 7, 8, 9, 10, 11, 12, 13, 14, 15, 16, 17, 18, 19, 20, 21, 22, 23, 24, 25, 26, 27, 28, 29, 30, 31, 32, 33, 34, 35, 36, 37, 38, 39] rfl (by (conv => whnf); first | done | rfl | (refine renL_rec hLi.flat ?_; (conv => whnf); first | done | rfl)) (by (conv => whnf); try rfl) ?_
  conv => whnf
  refine renL_rec hL5.flat ?_
  conv => whnf
  with_reducible refine renL_arr hA ?_
  conv => whnf
  refine Req.of ?_ ?_
  · exact arr_fits hA rfl fun _ => rfl
  conv => whnf
  (with_reducible refine putF_arr hA ?hl ?_; case' hl => exact List.length_replicate ..)
  conv => whnf
  rw [hk]
  conv => whnf
  clear k5 hLi hsi s4 hL4 a0 a1 a2 a3 s0 s1 s2 s3
  refine ALoop.run 4 ?_
  conv => whnf

  refine ALoop.fd (σ := Nat) (fun d => [.int .u8 g, .int .u8 u, .int .u8 y, .chan none, .chan none, .chan none, .chan none, .pointer (some ⟨0, 0, none⟩), .chan none, .pointer (some ⟨40, 0, none⟩), .pointer (some ⟨41, 0, none⟩), .pointer (some ⟨50, 0, none⟩), .int .i64 3, .int .i64 5, .pointer (some ⟨51, 0, none⟩), .int .i64 0, .int .i64 d, .chan none, .chan none, .chan none, .chan none, .chan none, .chan none, .chan none, .chan none, .chan none, .chan none, .chan none, .chan none, .chan none, .chan none, .chan none, .chan none, .chan none, .chan none, .chan none, .chan none, .chan none, .chan none, .chan none, .chan none, .chan none, .chan none, .chan none, .chan none, .chan none, .chan none, .chan none, .chan none, .chan none, .chan none, .chan none, .chan none, .chan none, .chan none, .chan none, .chan none, .chan none, .chan none, .chan none, .chan none, .chan none, .chan none, .chan none, .chan none, .chan none, .chan none, .chan none, .chan none, .chan none, .chan none, .chan none, .chan none, .chan none, .chan none, .chan none, .chan none, .chan none, .chan none, .chan none, .chan none, .chan none, .chan none, .chan none, .chan none, .chan none, .chan none, .chan none, .chan none, .chan none, .chan none, .chan none, .chan none, .chan none, .chan none, .chan none, .chan none, .chan none, .chan none, .chan none, .chan none, .chan none, .chan none, .chan none, .chan none, .chan none, .chan none, .chan none, .chan none, .chan none, .chan none, .chan none, .chan none, .chan none, .chan none, .chan none, .chan none, .chan none, .chan none, .chan none, .chan none, .chan none, .chan none]) (fun d => tsH a5 ++ [.cells (rowL .u8 F 160) 29, .cells [.int .i64 1, .int .i64 1, .int .i64 1, .int .i64 1, .int .i64 1, .int .i64 2, .int .i64 1, .int .i64 4] 38, .cells [.int .i64 0] 3, .cells [.int .i64 0, .int .i64 16] 3, .cells [.int .i64 0, .int .i64 32] 3, .cells [.int .i64 0, .int .i64 16, .int .i64 32] 3, .cells [.int .i64 0, .int .i64 64] 3, .cells [.int .i64 0] 3, .cells [.int .i64 0, .int .i64 32, .int .i64 64] 3, .cells [.int .i64 0] 3, .cells [.slice (some ⟨42, 0, none⟩) 1 1, .slice (some ⟨43, 0, none⟩) 2 2, .slice (some ⟨44, 0, none⟩) 2 2, .slice (some ⟨45, 0, none⟩) 3 3, .slice (some ⟨46, 0, none⟩) 2 2, .slice (some ⟨47, 0, none⟩) 1 1, .slice (some ⟨48, 0, none⟩) 3 3, .slice (some ⟨49, 0, none⟩) 1 1] 40, .cells (rowW (wI 3 P g (8 * 0 + d))) 41]) (fun d => d ≤ 8) (fun d => 8 - d) 0 [] rfl (by rw [show 8 * 0 + 0 = 0 from rfl, wI_zero, ← rowW_zero]; rfl) (by omega) (fun d => ⟨rfl, rfl, ?hok0, rfl⟩) ?_
  case hok0 =>
    simp only [tsH, List.cons_append, List.nil_append, List.all_cons, List.all_nil, Bool.and_true, Bool.and_eq_true]
    exact ⟨recC_all rfl (hL5.all fun _ => rfl) rfl, rfl, rfl, rfl, rfl, rfl, rfl, rfl, rfl, rfl, rfl, rfl, rfl, rfl, rfl, rfl, rfl, rfl, rfl, rfl, rfl, rfl, rfl, rfl, rfl, rfl, rfl, rfl, rfl, rfl, rfl, rfl, rfl, rfl, rfl, rfl, rfl, rfl, rfl, rfl, rowL_all fun _ => rfl, rfl, rfl, rfl, rfl, rfl, rfl, rfl, rfl, rfl, rfl, rowW_all fun _ => rfl⟩
  intro d0 hd R0 hR0
  have ei : IntKind.i64.wrap ((d0 : Int) + 1) = ((d0 + 1 : Nat) : Int) := by rw [wrap64 (by omega) (by omega)]; rfl
  have em : IntKind.i64.wrap (8 * 1) = 8 := by decide
  conv => whnf
  refine Bif.of (fun hc => ?_) fun hc => ?_
  · have hlt : d0 < 8 := by have h := of_decide_eq_true hc; omega
    rw [hc]
    have hraw : (IntKind.i64.wrap (IntKind.i64.wrap (IntKind.i64.wrap ((IntKind.i64.wrap y).tmod 160 + 0) + 5) + (d0 : Int))).tmod 160 = (((P + 0 + 5 + d0) % 160 : Nat) : Int) := by
      rw [hy, wrap64 (n := (P : Int) + 0) (by omega) (by omega), wrap64 (n := (P : Int) + 0 + 5) (by omega) (by omega), wrap64 (by omega) (by omega), Int.tmod_eq_emod_of_nonneg (by omega)]; omega
    have hix : (P + 0 + 5 + d0) % 160 < 160 := Nat.mod_lt _ (by decide)
    by_cases hgr : graphI g false 1 (d0 : Nat) = true
    · have hst : wI 3 P g (8 * 0 + (d0 + 1)) = fun j => wI 3 P g (8 * 0 + d0) j || decide (j = (P + 0 + 5 + d0) % 160) := wI_t (c := 8 * 0 + d0) rfl rfl hlt rfl rfl hgr
      generalize (P + 0 + 5 + d0) % 160 = ix at *
      conv => whnf
      refine ACalls.useE (field_graph _ _ _ _ hg ?_) [] rfl (by (conv => whnf); try rfl) (by (conv => whnf); try rfl) ?_
      · omega
      conv => whnf
      rw [hgr]
      conv => whnf
      rw [hraw]
      conv => whnf
      refine Req.of ?_ ?_
      · (rw [Bool.and_eq_true]; exact ⟨decide_eq_true (by omega), decide_eq_true (by omega)⟩)
      conv => whnf
      with_reducible refine putF_rowW ix (by show 0 + ((ix : Nat) : Int).toNat * 1 = ix; omega) hix hst ?_
      conv => whnf
      (rw [ei]; exact hR0 (d0 + 1) _ _ [] rfl rfl (by omega) (by omega))
    · have hgr2 : graphI g false 1 (d0 : Nat) = false := by simpa using hgr
      have hst : wI 3 P g (8 * 0 + (d0 + 1)) = wI 3 P g (8 * 0 + d0) := wI_f (c := 8 * 0 + d0) rfl rfl hlt rfl rfl hgr2
      conv => whnf
      refine ACalls.useE (field_graph _ _ _ _ hg ?_) [] rfl (by (conv => whnf); try rfl) (by (conv => whnf); try rfl) ?_
      · omega
      conv => whnf
      rw [hgr2]
      conv => whnf
      (rw [ei]; exact hR0 (d0 + 1) _ _ [] rfl (by rw [hst]; rfl) (by omega) (by omega))
  have hd0 : d0 = 8 := by have h := of_decide_eq_false hc; omega
  rw [hc]
  subst hd0
  clear hR0 ei hc hd
  conv => whnf

  refine ALoop.fd (σ := Nat) (fun d => [.int .u8 g, .int .u8 u, .int .u8 y, .chan none, .chan none, .chan none, .chan none, .pointer (some ⟨0, 0, none⟩), .chan none, .pointer (some ⟨40, 0, none⟩), .pointer (some ⟨41, 0, none⟩), .pointer (some ⟨50, 0, none⟩), .int .i64 3, .int .i64 5, .pointer (some ⟨51, 0, none⟩), .int .i64 1, .int .i64 d, .chan none, .chan none, .chan none, .chan none, .chan none, .chan none, .chan none, .chan none, .chan none, .chan none, .chan none, .chan none, .chan none, .chan none, .chan none, .chan none, .chan none, .chan none, .chan none, .chan none, .chan none, .chan none, .chan none, .chan none, .chan none, .chan none, .chan none, .chan none, .chan none, .chan none, .chan none, .chan none, .chan none, .chan none, .chan none, .chan none, .chan none, .chan none, .chan none, .chan none, .chan none, .chan none, .chan none, .chan none, .chan none, .chan none, .chan none, .chan none, .chan none, .chan none, .chan none, .chan none, .chan none, .chan none, .chan none, .chan none, .chan none, .chan none, .chan none, .chan none, .chan none, .chan none, .chan none, .chan none, .chan none, .chan none, .chan none, .chan none, .chan none, .chan none, .chan none, .chan none, .chan none, .chan none, .chan none, .chan none, .chan none, .chan none, .chan none, .chan none, .chan none, .chan none, .chan none, .chan none, .chan none, .chan none, .chan none, .chan none, .chan none, .chan none, .chan none, .chan none, .chan none, .chan none, .chan none, .chan none, .chan none, .chan none, .chan none, .chan none, .chan none, .chan none, .chan none, .chan none, .chan none, .chan none]) (fun d => tsH a5 ++ [.cells (rowL .u8 F 160) 29, .cells [.int .i64 1, .int .i64 1, .int .i64 1, .int .i64 1, .int .i64 1, .int .i64 2, .int .i64 1, .int .i64 4] 38, .cells [.int .i64 0] 3, .cells [.int .i64 0, .int .i64 16] 3, .cells [.int .i64 0, .int .i64 32] 3, .cells [.int .i64 0, .int .i64 16, .int .i64 32] 3, .cells [.int .i64 0, .int .i64 64] 3, .cells [.int .i64 0] 3, .cells [.int .i64 0, .int .i64 32, .int .i64 64] 3, .cells [.int .i64 0] 3, .cells [.slice (some ⟨42, 0, none⟩) 1 1, .slice (some ⟨43, 0, none⟩) 2 2, .slice (some ⟨44, 0, none⟩) 2 2, .slice (some ⟨45, 0, none⟩) 3 3, .slice (some ⟨46, 0, none⟩) 2 2, .slice (some ⟨47, 0, none⟩) 1 1, .slice (some ⟨48, 0, none⟩) 3 3, .slice (some ⟨49, 0, none⟩) 1 1] 40, .cells (rowW (wI 3 P g (8 * 1 + d))) 41]) (fun d => d ≤ 8) (fun d => 8 - d) 0 [] rfl rfl (by omega) (fun d => ⟨rfl, rfl, ?hok1, rfl⟩) ?_
  case hok1 =>
    simp only [tsH, List.cons_append, List.nil_append, List.all_cons, List.all_nil, Bool.and_true, Bool.and_eq_true]
    exact ⟨recC_all rfl (hL5.all fun _ => rfl) rfl, rfl, rfl, rfl, rfl, rfl, rfl, rfl, rfl, rfl, rfl, rfl, rfl, rfl, rfl, rfl, rfl, rfl, rfl, rfl, rfl, rfl, rfl, rfl, rfl, rfl, rfl, rfl, rfl, rfl, rfl, rfl, rfl, rfl, rfl, rfl, rfl, rfl, rfl, rfl, rowL_all fun _ => rfl, rfl, rfl, rfl, rfl, rfl, rfl, rfl, rfl, rfl, rfl, rowW_all fun _ => rfl⟩
  intro d1 hd R1 hR1
  have ei : IntKind.i64.wrap ((d1 : Int) + 1) = ((d1 + 1 : Nat) : Int) := by rw [wrap64 (by omega) (by omega)]; rfl
  have em : IntKind.i64.wrap (8 * 1) = 8 := by decide
  conv => whnf
  refine Bif.of (fun hc => ?_) fun hc => ?_
  · have hlt : d1 < 8 := by have h := of_decide_eq_true hc; omega
    rw [hc]
    have hraw : (IntKind.i64.wrap (IntKind.i64.wrap (IntKind.i64.wrap ((IntKind.i64.wrap y).tmod 160 + 16) + 5) + (d1 : Int))).tmod 160 = (((P + 16 + 5 + d1) % 160 : Nat) : Int) := by
      rw [hy, wrap64 (n := (P : Int) + 16) (by omega) (by omega), wrap64 (n := (P : Int) + 16 + 5) (by omega) (by omega), wrap64 (by omega) (by omega), Int.tmod_eq_emod_of_nonneg (by omega)]; omega
    have hix : (P + 16 + 5 + d1) % 160 < 160 := Nat.mod_lt _ (by decide)
    by_cases hgr : graphI g false 1 (d1 : Nat) = true
    · have hst : wI 3 P g (8 * 1 + (d1 + 1)) = fun j => wI 3 P g (8 * 1 + d1) j || decide (j = (P + 16 + 5 + d1) % 160) := wI_t (c := 8 * 1 + d1) rfl rfl hlt rfl rfl hgr
      generalize (P + 16 + 5 + d1) % 160 = ix at *
      conv => whnf
      refine ACalls.useE (field_graph _ _ _ _ hg ?_) [] rfl (by (conv => whnf); try rfl) (by (conv => whnf); try rfl) ?_
      · omega
      conv => whnf
      rw [hgr]
      conv => whnf
      rw [hraw]
      conv => whnf
      refine Req.of ?_ ?_
      · (rw [Bool.and_eq_true]; exact ⟨decide_eq_true (by omega), decide_eq_true (by omega)⟩)
      conv => whnf
      with_reducible refine putF_rowW ix (by show 0 + ((ix : Nat) : Int).toNat * 1 = ix; omega) hix hst ?_
      conv => whnf
      (rw [ei]; exact hR1 (d1 + 1) _ _ [] rfl rfl (by omega) (by omega))
    · have hgr2 : graphI g false 1 (d1 : Nat) = false := by simpa using hgr
      have hst : wI 3 P g (8 * 1 + (d1 + 1)) = wI 3 P g (8 * 1 + d1) := wI_f (c := 8 * 1 + d1) rfl rfl hlt rfl rfl hgr2
      conv => whnf
      refine ACalls.useE (field_graph _ _ _ _ hg ?_) [] rfl (by (conv => whnf); try rfl) (by (conv => whnf); try rfl) ?_
      · omega
      conv => whnf
      rw [hgr2]
      conv => whnf
      (rw [ei]; exact hR1 (d1 + 1) _ _ [] rfl (by rw [hst]; rfl) (by omega) (by omega))
  have hd0 : d1 = 8 := by have h := of_decide_eq_false hc; omega
  rw [hc]
  subst hd0
  clear hR1 ei hc hd
  conv => whnf

  refine ALoop.fd (σ := Nat) (fun d => [.int .u8 g, .int .u8 u, .int .u8 y, .chan none, .chan none, .chan none, .chan none, .pointer (some ⟨0, 0, none⟩), .chan none, .pointer (some ⟨40, 0, none⟩), .pointer (some ⟨41, 0, none⟩), .pointer (some ⟨50, 0, none⟩), .int .i64 3, .int .i64 5, .pointer (some ⟨51, 0, none⟩), .int .i64 2, .int .i64 d, .chan none, .chan none, .chan none, .chan none, .chan none, .chan none, .chan none, .chan none, .chan none, .chan none, .chan none, .chan none, .chan none, .chan none, .chan none, .chan none, .chan none, .chan none, .chan none, .chan none, .chan none, .chan none, .chan none, .chan none, .chan none, .chan none, .chan none, .chan none, .chan none, .chan none, .chan none, .chan none, .chan none, .chan none, .chan none, .chan none, .chan none, .chan none, .chan none, .chan none, .chan none, .chan none, .chan none, .chan none, .chan none, .chan none, .chan none, .chan none, .chan none, .chan none, .chan none, .chan none, .chan none, .chan none, .chan none, .chan none, .chan none, .chan none, .chan none, .chan none, .chan none, .chan none, .chan none, .chan none, .chan none, .chan none, .chan none, .chan none, .chan none, .chan none, .chan none, .chan none, .chan none, .chan none, .chan none, .chan none, .chan none, .chan none, .chan none, .chan none, .chan none, .chan none, .chan none, .chan none, .chan none, .chan none, .chan none, .chan none, .chan none, .chan none, .chan none, .chan none, .chan none, .chan none, .chan none, .chan none, .chan none, .chan none, .chan none, .chan none, .chan none, .chan none, .chan none, .chan none, .chan none, .chan none]) (fun d => tsH a5 ++ [.cells (rowL .u8 F 160) 29, .cells [.int .i64 1, .int .i64 1, .int .i64 1, .int .i64 1, .int .i64 1, .int .i64 2, .int .i64 1, .int .i64 4] 38, .cells [.int .i64 0] 3, .cells [.int .i64 0, .int .i64 16] 3, .cells [.int .i64 0, .int .i64 32] 3, .cells [.int .i64 0, .int .i64 16, .int .i64 32] 3, .cells [.int .i64 0, .int .i64 64] 3, .cells [.int .i64 0] 3, .cells [.int .i64 0, .int .i64 32, .int .i64 64] 3, .cells [.int .i64 0] 3, .cells [.slice (some ⟨42, 0, none⟩) 1 1, .slice (some ⟨43, 0, none⟩) 2 2, .slice (some ⟨44, 0, none⟩) 2 2, .slice (some ⟨45, 0, none⟩) 3 3, .slice (some ⟨46, 0, none⟩) 2 2, .slice (some ⟨47, 0, none⟩) 1 1, .slice (some ⟨48, 0, none⟩) 3 3, .slice (some ⟨49, 0, none⟩) 1 1] 40, .cells (rowW (wI 3 P g (8 * 2 + d))) 41]) (fun d => d ≤ 8) (fun d => 8 - d) 0 [] rfl rfl (by omega) (fun d => ⟨rfl, rfl, ?hok2, rfl⟩) ?_
  case hok2 =>
    simp only [tsH, List.cons_append, List.nil_append, List.all_cons, List.all_nil, Bool.and_true, Bool.and_eq_true]
    exact ⟨recC_all rfl (hL5.all fun _ => rfl) rfl, rfl, rfl, rfl, rfl, rfl, rfl, rfl, rfl, rfl, rfl, rfl, rfl, rfl, rfl, rfl, rfl, rfl, rfl, rfl, rfl, rfl, rfl, rfl, rfl, rfl, rfl, rfl, rfl, rfl, rfl, rfl, rfl, rfl, rfl, rfl, rfl, rfl, rfl, rfl, rowL_all fun _ => rfl, rfl, rfl, rfl, rfl, rfl, rfl, rfl, rfl, rfl, rfl, rowW_all fun _ => rfl⟩
  intro d2 hd R2 hR2
  have ei : IntKind.i64.wrap ((d2 : Int) + 1) = ((d2 + 1 : Nat) : Int) := by rw [wrap64 (by omega) (by omega)]; rfl
  have em : IntKind.i64.wrap (8 * 1) = 8 := by decide
  conv => whnf
  refine Bif.of (fun hc => ?_) fun hc => ?_
  · have hlt : d2 < 8 := by have h := of_decide_eq_true hc; omega
    rw [hc]
    have hraw : (IntKind.i64.wrap (IntKind.i64.wrap (IntKind.i64.wrap ((IntKind.i64.wrap y).tmod 160 + 32) + 5) + (d2 : Int))).tmod 160 = (((P + 32 + 5 + d2) % 160 : Nat) : Int) := by
      rw [hy, wrap64 (n := (P : Int) + 32) (by omega) (by omega), wrap64 (n := (P : Int) + 32 + 5) (by omega) (by omega), wrap64 (by omega) (by omega), Int.tmod_eq_emod_of_nonneg (by omega)]; omega
    have hix : (P + 32 + 5 + d2) % 160 < 160 := Nat.mod_lt _ (by decide)
    by_cases hgr : graphI g false 1 (d2 : Nat) = true
    · have hst : wI 3 P g (8 * 2 + (d2 + 1)) = fun j => wI 3 P g (8 * 2 + d2) j || decide (j = (P + 32 + 5 + d2) % 160) := wI_t (c := 8 * 2 + d2) rfl rfl hlt rfl rfl hgr
      generalize (P + 32 + 5 + d2) % 160 = ix at *
      conv => whnf
      refine ACalls.useE (field_graph _ _ _ _ hg ?_) [] rfl (by (conv => whnf); try rfl) (by (conv => whnf); try rfl) ?_
      · omega
      conv => whnf
      rw [hgr]
      conv => whnf
      rw [hraw]
      conv => whnf
      refine Req.of ?_ ?_
      · (rw [Bool.and_eq_true]; exact ⟨decide_eq_true (by omega), decide_eq_true (by omega)⟩)
      conv => whnf
      with_reducible refine putF_rowW ix (by show 0 + ((ix : Nat) : Int).toNat * 1 = ix; omega) hix hst ?_
      conv => whnf
      (rw [ei]; exact hR2 (d2 + 1) _ _ [] rfl rfl (by omega) (by omega))
    · have hgr2 : graphI g false 1 (d2 : Nat) = false := by simpa using hgr
      have hst : wI 3 P g (8 * 2 + (d2 + 1)) = wI 3 P g (8 * 2 + d2) := wI_f (c := 8 * 2 + d2) rfl rfl hlt rfl rfl hgr2
      conv => whnf
      refine ACalls.useE (field_graph _ _ _ _ hg ?_) [] rfl (by (conv => whnf); try rfl) (by (conv => whnf); try rfl) ?_
      · omega
      conv => whnf
      rw [hgr2]
      conv => whnf
      (rw [ei]; exact hR2 (d2 + 1) _ _ [] rfl (by rw [hst]; rfl) (by omega) (by omega))
  have hd0 : d2 = 8 := by have h := of_decide_eq_false hc; omega
  rw [hc]
  subst hd0
  clear hR2 ei hc hd
  conv => whnf

  refine ALoop.fd (σ := Nat) (fun x => [.int .u8 g, .int .u8 u, .int .u8 y, .chan none, .chan none, .chan none, .chan none, .pointer (some ⟨0, 0, none⟩), .chan none, .pointer (some ⟨40, 0, none⟩), .chan none, .chan none, .chan none, .chan none, .pointer (some ⟨51, 0, none⟩), .chan none, .chan none, .int .i64 x, .chan none, .chan none, .chan none, .chan none, .chan none, .chan none, .chan none, .chan none, .chan none, .chan none, .chan none, .chan none, .chan none, .chan none, .chan none, .chan none, .chan none, .chan none, .chan none, .chan none, .chan none, .chan none, .chan none, .chan none, .chan none, .chan none, .chan none, .chan none, .chan none, .chan none, .chan none, .chan none, .chan none, .chan none, .chan none, .chan none, .chan none, .chan none, .chan none, .chan none, .chan none, .chan none, .chan none, .chan none, .chan none, .chan none, .chan none, .chan none, .chan none, .chan none, .chan none, .chan none, .chan none, .chan none, .chan none, .chan none, .chan none, .chan none, .chan none, .chan none, .chan none, .chan none, .chan none, .chan none, .chan none, .chan none, .chan none, .chan none, .chan none, .chan none, .chan none, .chan none, .chan none, .chan none, .chan none, .chan none, .chan none, .chan none, .chan none, .chan none, .chan none, .chan none, .chan none, .chan none, .chan none, .chan none, .chan none, .chan none, .chan none, .chan none, .chan none, .chan none, .chan none, .chan none, .chan none, .chan none, .chan none, .chan none, .chan none, .chan none, .chan none, .chan none, .chan none, .chan none, .chan none]) (fun x => tsH a5 ++ [.cells (rowL .u8 F 160) 29, .cells [.int .i64 1, .int .i64 1, .int .i64 1, .int .i64 1, .int .i64 1, .int .i64 2, .int .i64 1, .int .i64 4] 38, .cells [.int .i64 0] 3, .cells [.int .i64 0, .int .i64 16] 3, .cells [.int .i64 0, .int .i64 32] 3, .cells [.int .i64 0, .int .i64 16, .int .i64 32] 3, .cells [.int .i64 0, .int .i64 64] 3, .cells [.int .i64 0] 3, .cells [.int .i64 0, .int .i64 32, .int .i64 64] 3, .cells [.int .i64 0] 3, .cells [.slice (some ⟨42, 0, none⟩) 1 1, .slice (some ⟨43, 0, none⟩) 2 2, .slice (some ⟨44, 0, none⟩) 2 2, .slice (some ⟨45, 0, none⟩) 3 3, .slice (some ⟨46, 0, none⟩) 2 2, .slice (some ⟨47, 0, none⟩) 1 1, .slice (some ⟨48, 0, none⟩) 3 3, .slice (some ⟨49, 0, none⟩) 1 1] 40, .cells (rowW (wI 3 P g 24)) 41]) (fun x => x ≤ 160) (fun x => 160 - x) 0 [] rfl rfl (by omega) (fun x => ⟨rfl, rfl, ?hokz, rfl⟩) ?_
  case hokz =>
    simp only [tsH, List.cons_append, List.nil_append, List.all_cons, List.all_nil, Bool.and_true, Bool.and_eq_true]
    exact ⟨recC_all rfl (hL5.all fun _ => rfl) rfl, rfl, rfl, rfl, rfl, rfl, rfl, rfl, rfl, rfl, rfl, rfl, rfl, rfl, rfl, rfl, rfl, rfl, rfl, rfl, rfl, rfl, rfl, rfl, rfl, rfl, rfl, rfl, rfl, rfl, rfl, rfl, rfl, rfl, rfl, rfl, rfl, rfl, rfl, rfl, rowL_all fun _ => rfl, rfl, rfl, rfl, rfl, rfl, rfl, rfl, rfl, rfl, rfl, rowW_all fun _ => rfl⟩
  intro x hx Rx hRx
  have ei : IntKind.i64.wrap ((x : Int) + 1) = ((x + 1 : Nat) : Int) := by rw [wrap64 (by omega) (by omega)]; rfl
  conv => whnf
  refine Bif.of (fun hc => ?_) fun hc => ?_
  · have hlt : x < 160 := by have h := of_decide_eq_true hc; omega
    rw [hc]
    have hFx := hF x hlt
    by_cases hcw : wI 3 P g 24 x = true
    · rw [if_pos hcw] at hFx
      conv => whnf
      refine Req.of ?_ ?_
      · (rw [Bool.and_eq_true]; exact ⟨decide_eq_true (by omega), decide_eq_true (by omega)⟩)
      conv => whnf
      with_reducible refine getF_rowL x (by show 0 + (x : Int).toNat * 1 = x; omega) hlt ?_
      conv => whnf
      rw [hFx]
      conv => whnf
      refine Req.of ?_ ?_
      · (rw [Bool.and_eq_true]; exact ⟨decide_eq_true (by omega), decide_eq_true (by omega)⟩)
      conv => whnf
      with_reducible refine getF_rowW x (by show 0 + (x : Int).toNat * 1 = x; omega) hlt ?_
      conv => whnf
      rw [hcw]
      conv => whnf
      refine Req.of ?_ ?_
      · (rw [Bool.and_eq_true]; exact ⟨decide_eq_true (by omega), decide_eq_true (by omega)⟩)
      conv => whnf
      with_reducible refine getF_rowL x (by show 0 + (x : Int).toNat * 1 = x; omega) hlt ?_
      conv => whnf
      rw [hFx]
      conv => whnf
      (rw [ei]; exact hRx (x + 1) _ _ [] rfl rfl (by omega) (by omega))
    · have hcw2 : wI 3 P g 24 x = false := by simpa using hcw
      rw [if_neg hcw] at hFx
      conv => whnf
      refine Req.of ?_ ?_
      · (rw [Bool.and_eq_true]; exact ⟨decide_eq_true (by omega), decide_eq_true (by omega)⟩)
      conv => whnf
      with_reducible refine getF_rowL x (by show 0 + (x : Int).toNat * 1 = x; omega) hlt ?_
      conv => whnf
      rw [hFx]
      conv => whnf
      refine Req.of ?_ ?_
      · (rw [Bool.and_eq_true]; exact ⟨decide_eq_true (by omega), decide_eq_true (by omega)⟩)
      conv => whnf
      with_reducible refine getF_rowW x (by show 0 + (x : Int).toNat * 1 = x; omega) hlt ?_
      conv => whnf
      rw [hcw2]
      conv => whnf
      refine Req.of ?_ ?_
      · (rw [Bool.and_eq_true]; exact ⟨decide_eq_true (by omega), decide_eq_true (by omega)⟩)
      conv => whnf
      with_reducible refine getF_rowL x (by show 0 + (x : Int).toNat * 1 = x; omega) hlt ?_
      conv => whnf
      rw [hFx]
      conv => whnf
      refine Req.of ?_ ?_
      · (rw [Bool.and_eq_true]; exact ⟨decide_eq_true (by omega), decide_eq_true (by omega)⟩)
      conv => whnf
      with_reducible refine getF_rowL x (by show 0 + (x : Int).toNat * 1 = x; omega) hlt ?_
      conv => whnf
      rw [hFx]
      conv => whnf
      (rw [ei]; exact hRx (x + 1) _ _ [] rfl rfl (by omega) (by omega))
  · rw [hc]
    clear hRx
    conv => whnf
end Go.Proofs
