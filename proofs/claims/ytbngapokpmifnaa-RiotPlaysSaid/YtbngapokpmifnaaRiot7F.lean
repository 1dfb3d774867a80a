/-
  Walks through the functions of the program, by contract.
-/
import Derived.Test.YtbngapokpmifnaaRiot6F
set_option linter.all false
set_option linter.unusedVariables false
set_option linter.unusedSimpArgs false
set_option linter.unnecessarySimpa false
namespace Go.Proofs
open Go.Aw
set_option maxRecDepth 100000
set_option maxHeartbeats 8000000
theorem port_words (i o w : Int) (hb : (0 ≤ i ∧ i ≤ 255) ∧ (0 ≤ o ∧ o ≤ 255) ∧ (0 ≤ w ∧ w ≤ 255)) : ACalls Try.prog 30 [.pointer (some ⟨0, 0, none⟩)] [.cells [.int .u8 i, .int .u8 o, .int .u8 w] 97] fun r H => r = .agg #[.int .i64 i, .int .i64 o, .int .i64 w] ∧ H = [.cells [.int .u8 i, .int .u8 o, .int .u8 w] 97] := by
  have e1 : IntKind.i64.wrap i = i := wrap64 (by omega) (by omega)
  have e2 : IntKind.i64.wrap o = o := wrap64 (by omega) (by omega)
  have e3 : IntKind.i64.wrap w = w := wrap64 (by omega) (by omega)
  refine ACalls.code tabOk h30 Try.func30 Try.call30 ok30 ?_
  conv => whnf
  (rw [e1, e2, e3]; exact ⟨rfl, rfl⟩)
/-- The words of a riot. -/
@[irreducible] def wdS (s : RS) (j : Nat) : Int :=
  if j < 128 then rd s.L j else
  match j with
  | 128 => s.i0 | 129 => s.o0 | 130 => s.w0
  | 131 => s.i1 | 132 => s.o1 | 133 => s.w1
  | 134 => s.tm.v | 135 => s.tm.iv | 136 => s.tm.l | 137 => one01 s.tm.fa | 138 => one01 s.tm.fl
  | 139 => e01 s.el | 140 => e01 s.er | _ => e01 s.ec
theorem wdS_lo (s : RS) {j : Nat} (h : j < 128) : wdS s j = rd s.L j := by unfold wdS; rw [if_pos h]
theorem row_lay {q : IntKind} {f : Nat → Int} {i n : Nat} {vs : List Value} (h : i + vs.length ≤ n) (hv : ∀ j, j < vs.length → vs[j]? = some (.int q (f (i + j)))) : lay (rowI q f i n) i vs = rowI q f (i + vs.length) n := by
  apply List.ext_getElem?
  intro j
  unfold lay
  by_cases h1 : j < i
  · rw [List.append_assoc, List.getElem?_append_left (by rw [List.length_take, rowI_len]; omega), List.getElem?_take, if_pos h1, rowI_at (by omega), rowI_at (by omega), if_pos h1, if_pos (by omega)]
  · have ht : ((rowI q f i n).take i).length = i := by rw [List.length_take, rowI_len]; omega
    rw [List.append_assoc, List.getElem?_append_right (by omega), ht]
    by_cases h2 : j - i < vs.length
    · rw [List.getElem?_append_left h2, hv _ h2, rowI_at (by omega), if_pos (by omega), show i + (j - i) = j by omega]
    · rw [List.getElem?_append_right (by omega), List.getElem?_drop, show i + vs.length + (j - i - vs.length) = j by omega]
      by_cases h3 : j < n
      · rw [rowI_at h3, rowI_at h3, if_neg h1, if_neg (by omega)]
      · rw [List.getElem?_eq_none (by rw [rowI_len]; omega), List.getElem?_eq_none (by rw [rowI_len]; omega)]
theorem putF_rowN {q : IntKind} {f : Nat → Int} {i n o : Nat} {vs : List Value} {k : List Value → Prop} (m : Nat) (ho : o = i) (hm : vs.length = m) (h : i + m ≤ n) (hv : ∀ j, j < m → vs[j]? = some (.int q (f (i + j)))) (hk : k (rowI q f (i + m) n)) : putF (rowI q f i n) o vs k := by
  subst ho; subst hm
  exact putF_of (by rw [rowI_len]; exact h) (by rw [row_lay h hv]; exact hk)
theorem catF_rowN {q : IntKind} {f : Nat → Int} {i : Nat} {vs : List Value} {k : List Value → Prop} (m : Nat) (hm : vs.length = m) (hv : ∀ j, j < m → vs[j]? = some (.int q (f (i + j)))) (hk : k (rowL q f (i + m))) : catF (rowL q f i) vs k := by
  subst hm
  rw [catF_eq]
  have : rowL q f i ++ vs = rowL q f (i + vs.length) := by
    apply List.ext_getElem?
    intro j
    by_cases h1 : j < i
    · rw [List.getElem?_append_left (by rw [rowL_len]; exact h1), rowL_get h1, rowL_get (by omega)]
    · rw [List.getElem?_append_right (by rw [rowL_len]; omega), rowL_len]
      by_cases h2 : j - i < vs.length
      · rw [hv _ h2, rowL_get (by omega), show i + (j - i) = j by omega]
      · rw [List.getElem?_eq_none (by omega), List.getElem?_eq_none (by rw [rowL_len]; omega)]
  rw [this]; exact hk
theorem renL_flatD {d : Nat} {τ : List Nat} {l : List Value} {k : List Value → Prop} (h : ∀ v ∈ l, flatV v = true) (hk : k l) : renL (renV (d + 1) τ) l k := by
  induction l generalizing k with
  | nil => exact hk
  | cons v l ih =>
    unfold renL
    have hv := h v (List.mem_cons_self ..)
    have : renV (d + 1) τ v (fun v' => renL (renV (d + 1) τ) l fun l' => k (v' :: l')) = renL (renV (d + 1) τ) l fun l' => k (v :: l') := by
      cases v <;> first | rfl | simp [flatV] at hv
    rw [this]
    exact ih (fun x hx => h x (List.mem_cons_of_mem _ hx)) hk
theorem renL_ramD {L : List Value} (h : Ram L) {d : Nat} {τ : List Nat} {k : List Value → Prop} (hk : k L) : renL (renV (d + 1) τ) L k := renL_flatD h.flat hk
theorem getF_ramL {L : List Value} (h : Ram L) (j' : Nat) {j : Nat} {k : Value → Prop} (he : j = j') (hj : j' < 128) (hk : k (.int .u8 (rd L j'))) : getF L j k := by subst he; exact getF_of (h.at hj) hk
theorem BW.riot {L : List Value} {p q c e : Value} (h : Ram L) {ord : List Nat} {t : TypeId} (hp : renL (renV 6 ord) [p, q, c, e] fun l => l = [p, q, c, e]) : BW ord (.cells (riotC L p q c e) t) (.cells (riotC L p q c e) t) := by
  obtain ⟨l, hl, hv⟩ := renL_iff (renV_iff 6) hp
  subst hl
  refine .cells _ _ _ ?_
  unfold riotC
  refine VRs.append ⟨rfl, fun i x y hx hy => ?_⟩ hv
  rw [hx] at hy; cases hy
  have hi : i < 128 := by have := (List.getElem?_eq_some_iff.1 hx).1; rwa [h.len] at this
  rw [h.at hi] at hx; cases hx; exact .int _ _
theorem ref_same (f g : Nat → Int) (n a b : Nat) (hn : n ≤ 1000000) (ha : n ≤ a) (hb : n ≤ b) (h : ∀ i, i < n → f i = g i) : ACalls Try.prog 50 [.slice (some ⟨0, 0, none⟩) n a, .slice (some ⟨1, 0, none⟩) n b] [.cells (rowI .i64 f n a) 3, .cells (rowI .i64 g n b) 3] fun v H => v = .bool true ∧ H = [.cells (rowI .i64 f n a) 3, .cells (rowI .i64 g n b) 3] := by
  refine ACalls.code tabOk h50 Try.func50 Try.call50 ok50 ?_
  conv => whnf
  refine Bif.knF ?_ fun h0 => ?_
  · (simp; done)
  rw [h0]
  conv => whnf
  refine ALoop.fd (σ := Nat) (fun i => [.slice (some ⟨0, 0, none⟩) n a, .slice (some ⟨1, 0, none⟩) n b, .chan none, .chan none, .bool false, .int .i64 i, .chan none, .chan none, .chan none, .chan none, .chan none, .chan none, .chan none, .chan none, .chan none, .chan none, .chan none, .chan none, .chan none, .chan none, .chan none, .chan none, .chan none, .chan none, .chan none, .chan none]) (fun _ => [.cells (rowI .i64 f n a) 3, .cells (rowI .i64 g n b) 3]) (fun i => i ≤ n) (fun i => n - i) 0 [] rfl rfl (Nat.zero_le _) (fun _ => ⟨rfl, rfl, by simp only [List.all_cons, List.all_nil, Bool.and_true, Bool.and_eq_true]; exact ⟨row_all fun _ => rfl, row_all fun _ => rfl⟩, rfl⟩) ?_
  intro i hi R hR
  have ei : IntKind.i64.wrap ((i : Int) + 1) = ((i + 1 : Nat) : Int) := by rw [wrap64 (by omega) (by omega)]; rfl
  by_cases hlt : i < n
  · have he := h i hlt
    conv => whnf
    refine Bif.knT ?_ fun h0 => ?_
    · (clear hR; simp; omega)
    rw [h0]
    conv => whnf
    refine Req.of ?_ ?_
    · (clear hR; simp; omega)
    conv => whnf
    refine getF_row' i (by first | omega | (dsimp only; omega)) (by omega) (by omega) ?_
    conv => whnf
    refine Req.of ?_ ?_
    · (clear hR; simp; omega)
    conv => whnf
    refine getF_row' i (by first | omega | (dsimp only; omega)) (by omega) (by omega) ?_
    conv => whnf
    refine Bif.knF ?_ fun h1 => ?_
    · (clear hR; simp; omega)
    rw [h1]
    conv => whnf
    (rw [ei]; exact hR (i + 1) _ _ [] rfl rfl (by omega) (by omega))
  · obtain rfl : i = n := by omega
    clear hR
    conv => whnf
    refine Bif.knF ?_ fun h0 => ?_
    · (simp; done)
    rw [h0]
    conv => whnf
    refine Req.of ?_ ?_
    · exact row_all fun _ => rfl
    conv => whnf
    refine Req.of ?_ ?_
    · exact row_all fun _ => rfl
    conv => whnf
    exact ⟨rfl, rfl⟩
def frW (s : RS) : Nat × Nat → List Value
  | (0, _) => [.pointer (some ⟨0, 0, none⟩), .chan none, .slice none 0 0, .slice none 0 0, .chan none, .chan none, .chan none, .chan none, .chan none, .chan none, .chan none, .chan none, .chan none, .chan none, .chan none, .chan none, .agg s.L.toArray, .int .i64 0, .chan none, .chan none, .chan none, .chan none, .chan none, .chan none, .chan none, .chan none, .chan none, .chan none, .chan none, .chan none, .chan none, .chan none, .chan none, .chan none, .chan none, .chan none, .chan none, .chan none, .chan none, .chan none, .chan none, .chan none, .chan none, .chan none, .chan none, .chan none, .chan none, .chan none, .chan none, .chan none, .chan none, .chan none, .chan none, .chan none, .chan none, .chan none, .chan none, .chan none]
  | (i + 1, nc) => [.pointer (some ⟨0, 0, none⟩), .chan none, .slice none 0 0, .slice (some ⟨5, 0, none⟩) (i + 1) nc, .chan none, .chan none, .chan none, .chan none, .chan none, .chan none, .chan none, .chan none, .chan none, .chan none, .chan none, .chan none, .agg s.L.toArray, .int .i64 (i + 1 : Nat), .chan none, .chan none, .chan none, .chan none, .chan none, .chan none, .chan none, .chan none, .chan none, .chan none, .chan none, .chan none, .chan none, .chan none, .chan none, .chan none, .chan none, .chan none, .chan none, .chan none, .chan none, .chan none, .chan none, .chan none, .chan none, .chan none, .chan none, .chan none, .chan none, .chan none, .chan none, .chan none, .chan none, .chan none, .chan none, .chan none, .chan none, .chan none, .chan none, .chan none]
def hpW (s : RS) : Nat × Nat → List Blk
  | (0, _) => rsHeap s
  | (i + 1, nc) => rsHeap s ++ [.cells (rowI .i64 (wdS s) (i + 1) nc) 3]
theorem wdA (s : RS) : ∀ j, j < 3 → ([.int .i64 s.i0, .int .i64 s.o0, .int .i64 s.w0] : List Value)[j]? = some (.int .i64 (wdS s (128 + j)))
  | 0, _ => by unfold wdS; rfl
  | 1, _ => by unfold wdS; rfl
  | 2, _ => by unfold wdS; rfl
theorem wdB (s : RS) : ∀ j, j < 3 → ([.int .i64 s.i1, .int .i64 s.o1, .int .i64 s.w1] : List Value)[j]? = some (.int .i64 (wdS s (131 + j)))
  | 0, _ => by unfold wdS; rfl
  | 1, _ => by unfold wdS; rfl
  | 2, _ => by unfold wdS; rfl
theorem wdC (s : RS) : ∀ j, j < 5 → ([.int .i64 s.tm.v, .int .i64 s.tm.iv, .int .i64 s.tm.l, .int .i64 (one01 s.tm.fa), .int .i64 (one01 s.tm.fl)] : List Value)[j]? = some (.int .i64 (wdS s (134 + j)))
  | 0, _ => by unfold wdS; rfl
  | 1, _ => by unfold wdS; rfl
  | 2, _ => by unfold wdS; rfl
  | 3, _ => by unfold wdS; rfl
  | 4, _ => by unfold wdS; rfl
theorem wdD (s : RS) : ∀ j, j < 3 → ([.int .i64 (e01 s.el), .int .i64 (e01 s.er), .int .i64 (e01 s.ec)] : List Value)[j]? = some (.int .i64 (wdS s (139 + j)))
  | 0, _ => by unfold wdS; rfl
  | 1, _ => by unfold wdS; rfl
  | 2, _ => by unfold wdS; rfl
theorem wk_words {s : RS} (hs : s.Ok) {H' : List Blk} {b nc : Nat} (hb : H'[b]? = some (.cells (rowI .i64 (wdS s) 142 nc) 3)) (hp : H'.take 5 = rsHeap s) (hb5 : 5 ≤ b) (hn : 142 ≤ nc) :
    Wk (rsHeap s) (fun v H => ∃ nc : Nat, 142 ≤ nc ∧ v = .slice (some ⟨5, 0, none⟩) 142 nc ∧ H = rsHeap s ++ [.cells (rowI .i64 (wdS s) 142 nc) 3]) (.slice (some ⟨b, 0, none⟩) 142 nc) H' := by
  have hg : ∀ (j : Nat) (x : Blk), j < 5 → (rsHeap s)[j]? = some x → H'[j]? = some x := fun j x hj hx => by
    rw [← hp, List.getElem?_take, if_pos hj] at hx; exact hx
  refine ⟨.slice (some ⟨5, 0, none⟩) 142 nc, rsHeap s ++ [.cells (rowI .i64 (wdS s) 142 nc) 3], weak_of [0, 1, 2, 3, 4, b] rfl ?_ ⟨rfl, fun i x y hx hy => ?_⟩ ?_, (by intro h; cases h), nc, hn, rfl, rfl⟩
  · simp only [nodupB, List.all_cons, List.all_nil, Bool.and_true, Bool.and_eq_true, Bool.not_eq_true']
    have e : ∀ k, k < 5 → Nat.beq k b = false := fun k hk => by
      cases h : Nat.beq k b with
      | false => rfl
      | true => have := Nat.eq_of_beq_eq_true h; omega
    refine ⟨⟨rfl, rfl, rfl, rfl, e 0 (by decide)⟩, ⟨rfl, rfl, rfl, e 1 (by decide)⟩, ⟨rfl, rfl, e 2 (by decide)⟩, ⟨rfl, e 3 (by decide)⟩, e 4 (by decide)⟩
  · cases i with
    | zero => simp at hx hy; subst hx; subst hy; exact .inr (.sl _ _ _ _ _ rfl)
    | succ i => simp at hx
  · have v : ∀ i, i < 5 → VR [0, 1, 2, 3, 4, b] (.pointer (some ⟨i, 0, none⟩)) (.pointer (some ⟨i, 0, none⟩)) := fun i hi => .ptr _ _ _ (by
      have : i = 0 ∨ i = 1 ∨ i = 2 ∨ i = 3 ∨ i = 4 := by omega
      rcases this with rfl | rfl | rfl | rfl | rfl <;> rfl)
    refine ⟨⟨_, hg 0 _ (by decide) rfl, ?_⟩, ⟨_, hg 1 _ (by decide) rfl, ?_⟩, ⟨_, hg 2 _ (by decide) rfl, ?_⟩, ⟨_, hg 3 _ (by decide) rfl, ?_⟩, ⟨_, hg 4 _ (by decide) rfl, ?_⟩, ⟨_, hb, BW.row rfl⟩, trivial⟩
    · exact BW.riot hs.L rfl
    · exact BW.lit rfl
    · exact BW.lit rfl
    · exact BW.lit rfl
    · exact BW.lit rfl
theorem riot_words (s : RS) (hs : s.Ok) : ACalls Try.prog 51 [.pointer (some ⟨0, 0, none⟩)] (rsHeap s) fun v H => ∃ nc : Nat, 142 ≤ nc ∧ v = .slice (some ⟨5, 0, none⟩) 142 nc ∧ H = rsHeap s ++ [.cells (rowI .i64 (wdS s) 142 nc) 3] := by
  refine ACalls.codeW tabOk h51 Try.func51 Try.call51 ok51 ?_
  conv => whnf
  refine dropF_zero ?_
  conv => whnf
  refine takeF_rr hs.L rfl ?_
  conv => whnf
  refine ALoop.fdw (σ := Nat × Nat) (frW s) (hpW s) (fun t => t.1 ≤ 128 ∧ t.1 ≤ t.2) (fun t => 128 - t.1) (0, 0) (fade_ren [0, 1, 2, 3, 4] rfl (by (conv => whnf); refine renL_ramD hs.L ?_; (conv => whnf); rfl) ⟨⟨_, rfl, BW.riot hs.L rfl⟩, ⟨_, rfl, BW.lit (by (conv => whnf); try rfl)⟩, ⟨_, rfl, BW.lit (by (conv => whnf); try rfl)⟩, ⟨_, rfl, BW.lit (by (conv => whnf); try rfl)⟩, ⟨_, rfl, BW.lit (by (conv => whnf); try rfl)⟩, trivial⟩) ⟨Nat.zero_le _, Nat.le_refl _⟩ ?_
  rintro ⟨i, nc⟩ ⟨hi, hnc⟩ R hR
  dsimp only at hi hnc
  cases i with
  | zero =>
    have hx : IntKind.i64.wrap (rd s.L 0) = wdS s 0 := by have := hs.L.rd_le (j := 0) (by decide); rw [wdS_lo s (by decide), wrap64 (by omega) (by omega)]
    have e1 : IntKind.i64.wrap (0 + 1) = ((0 + 1 : Nat) : Int) := by decide
    conv => whnf
    refine getF_ramL hs.L 0 (by first | rfl | omega) (by decide) ?_
    conv => whnf
    rw [hx]
    conv => whnf
    intro nc2 hc1 hc2
    conv => whnf
    (rw [e1]; exact hR (1, nc2) _ _ ⟨by omega, by omega⟩ (by dsimp only; omega) (fade_ren [0, 1, 2, 3, 4, 6] rfl (by (conv => whnf); refine renL_ramD hs.L ?_; (conv => whnf); rfl) ⟨⟨_, rfl, BW.riot hs.L rfl⟩, ⟨_, rfl, BW.lit (by (conv => whnf); try rfl)⟩, ⟨_, rfl, BW.lit (by (conv => whnf); try rfl)⟩, ⟨_, rfl, BW.lit (by (conv => whnf); try rfl)⟩, ⟨_, rfl, BW.lit (by (conv => whnf); try rfl)⟩, ⟨_, rfl, BW.row (row_start (by omega) rfl)⟩, trivial⟩))
  | succ i =>
    have e1 : IntKind.i64.wrap (((i + 1 : Nat) : Int) + 1) = ((i + 2 : Nat) : Int) := by rw [wrap64 (by omega) (by omega)]; omega
    by_cases hlt : i + 1 < 128
    · have hx : IntKind.i64.wrap (rd s.L (i + 1)) = wdS s (i + 1) := by have := hs.L.rd_le hlt; rw [wdS_lo s hlt, wrap64 (by omega) (by omega)]
      conv => whnf
      refine Bif.knT ?_ fun h0 => ?_
      · (clear hR; simp; omega)
      rw [h0]
      conv => whnf
      refine Req.of ?_ ?_
      · (clear hR; simp; omega)
      conv => whnf
      refine getF_ramL hs.L (i + 1) (by first | omega | (dsimp only; omega)) hlt ?_
      conv => whnf
      rw [hx]
      conv => whnf
      refine Bif.of (fun h1 => ?_) fun h1 => ?_
      · conv => whnf
        refine putF_row (f := wdS s) (by simp at *; omega) (by first | omega | (dsimp only; omega)) (by first | rfl | exact hx) ?_
        conv => whnf
        (rw [e1]; exact hR (i + 2, nc) _ _ ⟨by dsimp only; omega, by simp at *; omega⟩ (by dsimp only; omega) (fade_ren [0, 1, 2, 3, 4, 5] rfl (by (conv => whnf); refine renL_ramD hs.L ?_; (conv => whnf); rfl) ⟨⟨_, rfl, BW.riot hs.L rfl⟩, ⟨_, rfl, BW.lit (by (conv => whnf); try rfl)⟩, ⟨_, rfl, BW.lit (by (conv => whnf); try rfl)⟩, ⟨_, rfl, BW.lit (by (conv => whnf); try rfl)⟩, ⟨_, rfl, BW.lit (by (conv => whnf); try rfl)⟩, ⟨_, rfl, BW.row rfl⟩, trivial⟩))
      · conv => whnf
        refine Req.of ?_ ?_
        · (simp only [decide_true, Bool.true_and, Bool.and_true, Bool.and_eq_true, decide_eq_true_eq]; exact ⟨⟨by omega, growslice_fits (by simp at *; omega) (by omega)⟩, rfl⟩)
        conv => whnf
        refine dropF_zero ?_
        conv => whnf
        refine takeF_row (by omega) (by first | omega | (dsimp only; omega)) ?_
        conv => whnf
        refine catF_snoc (by first | rfl | exact hx) ?_
        conv => whnf
        intro nc2 hc1 hc2
        conv => whnf
        refine catF_row (n := nc2) (by omega) (by omega) ?_
        conv => whnf
        (rw [e1]; exact hR (i + 2, nc2) _ _ ⟨by dsimp only; omega, by dsimp only; omega⟩ (by dsimp only; omega) (fade_ren [0, 1, 2, 3, 4, 7] rfl (by (conv => whnf); refine renL_ramD hs.L ?_; (conv => whnf); rfl) ⟨⟨_, rfl, BW.riot hs.L rfl⟩, ⟨_, rfl, BW.lit (by (conv => whnf); try rfl)⟩, ⟨_, rfl, BW.lit (by (conv => whnf); try rfl)⟩, ⟨_, rfl, BW.lit (by (conv => whnf); try rfl)⟩, ⟨_, rfl, BW.lit (by (conv => whnf); try rfl)⟩, ⟨_, rfl, BW.row rfl⟩, trivial⟩))
    · clear hR
      obtain rfl : i = 127 := by omega
      conv => whnf
      refine getF_p hs.L rfl ?_
      conv => whnf
      refine getF_q hs.L rfl ?_
      conv => whnf
      refine getF_c hs.L rfl ?_
      conv => whnf
      refine getF_e hs.L rfl ?_
      conv => whnf
      refine ACalls.useE (port_words _ _ _ ?_) [1] rfl (by (conv => whnf); try rfl) (by (conv => whnf); try rfl) ?_
      · exact hs.p0
      conv => whnf
      refine getF_e hs.L rfl ?_
      conv => whnf
      refine ⟨rfl, ?_⟩
      conv => whnf
      refine getF_c hs.L rfl ?_
      conv => whnf
      refine ⟨rfl, ?_⟩
      conv => whnf
      refine getF_q hs.L rfl ?_
      conv => whnf
      refine ⟨rfl, ?_⟩
      conv => whnf
      refine ACalls.useE (port_words _ _ _ ?_) [2] rfl (by (conv => whnf); try rfl) (by (conv => whnf); try rfl) ?_
      · exact hs.p1
      conv => whnf
      refine getF_e hs.L rfl ?_
      conv => whnf
      refine ⟨rfl, ?_⟩
      conv => whnf
      refine getF_c hs.L rfl ?_
      conv => whnf
      refine ⟨rfl, ?_⟩
      conv => whnf
      refine ACalls.useE (timer_words _ _ _ _ _ ?_) [3] rfl (by (conv => whnf); try rfl) (by (conv => whnf); try rfl) ?_
      · exact hs.tm.1
      conv => whnf
      refine getF_e hs.L rfl ?_
      conv => whnf
      refine ⟨rfl, ?_⟩
      conv => whnf
      refine ACalls.useE (edge_words _ _ _) [4] rfl (by (conv => whnf); try rfl) (by (conv => whnf); try rfl) ?_
      conv => whnf
      refine Bif.of (fun h0 => ?_) fun h0 => ?_
      · conv => whnf
        refine putF_rowN (f := wdS s) 3 (by first | rfl | omega | (dsimp only; omega)) rfl (by simp at *; omega) (wdA s) ?_
        conv => whnf
        refine Bif.of (fun h1 => ?_) fun h1 => ?_
        · conv => whnf
          refine putF_rowN (f := wdS s) 3 (by first | rfl | omega | (dsimp only; omega)) rfl (by simp at *; omega) (wdB s) ?_
          conv => whnf
          refine Bif.of (fun h2 => ?_) fun h2 => ?_
          · conv => whnf
            refine putF_rowN (f := wdS s) 5 (by first | rfl | omega | (dsimp only; omega)) rfl (by simp at *; omega) (wdC s) ?_
            conv => whnf
            refine Bif.of (fun h3 => ?_) fun h3 => ?_
            · conv => whnf
              refine putF_rowN (f := wdS s) 3 (by first | rfl | omega | (dsimp only; omega)) rfl (by simp at *; omega) (wdD s) ?_
              conv => whnf
              exact wk_words hs rfl rfl (by decide) (by simp at *; omega)
            · conv => whnf
              refine Req.of ?_ ?_
              · (simp only [decide_true, Bool.true_and, Bool.and_true, Bool.and_eq_true, decide_eq_true_eq]; exact ⟨⟨by omega, growslice_fits (by simp at *; omega) (by omega)⟩, rfl⟩)
              conv => whnf
              refine dropF_zero ?_
              conv => whnf
              refine takeF_row (by first | omega | (simp at *; omega)) (by first | rfl | omega | (dsimp only; omega)) ?_
              conv => whnf
              refine catF_rowN 3 rfl (wdD s) ?_
              conv => whnf
              intro nc2 hc1 hc2
              conv => whnf
              refine catF_row (n := nc2) (by omega) (by omega) ?_
              conv => whnf
              exact wk_words hs rfl rfl (by decide) (by simp at *; omega)
          · conv => whnf
            refine Req.of ?_ ?_
            · (simp only [decide_true, Bool.true_and, Bool.and_true, Bool.and_eq_true, decide_eq_true_eq]; exact ⟨⟨by omega, growslice_fits (by simp at *; omega) (by omega)⟩, rfl⟩)
            conv => whnf
            refine dropF_zero ?_
            conv => whnf
            refine takeF_row (by first | omega | (simp at *; omega)) (by first | rfl | omega | (dsimp only; omega)) ?_
            conv => whnf
            refine catF_rowN 5 rfl (wdC s) ?_
            conv => whnf
            intro nc2 hc1 hc2
            conv => whnf
            refine catF_row (n := nc2) (by omega) (by omega) ?_
            conv => whnf
            refine Bif.of (fun h4 => ?_) fun h4 => ?_
            · conv => whnf
              refine putF_rowN (f := wdS s) 3 (by first | rfl | omega | (dsimp only; omega)) rfl (by simp at *; omega) (wdD s) ?_
              conv => whnf
              exact wk_words hs rfl rfl (by decide) (by simp at *; omega)
            · conv => whnf
              refine Req.of ?_ ?_
              · (simp only [decide_true, Bool.true_and, Bool.and_true, Bool.and_eq_true, decide_eq_true_eq]; exact ⟨⟨by omega, growslice_fits (by simp at *; omega) (by omega)⟩, rfl⟩)
              conv => whnf
              refine dropF_zero ?_
              conv => whnf
              refine takeF_row (by first | omega | (simp at *; omega)) (by first | rfl | omega | (dsimp only; omega)) ?_
              conv => whnf
              refine catF_rowN 3 rfl (wdD s) ?_
              conv => whnf
              intro nc2 hc1 hc2
              conv => whnf
              refine catF_row (n := nc2) (by omega) (by omega) ?_
              conv => whnf
              exact wk_words hs rfl rfl (by decide) (by simp at *; omega)
        · conv => whnf
          refine Req.of ?_ ?_
          · (simp only [decide_true, Bool.true_and, Bool.and_true, Bool.and_eq_true, decide_eq_true_eq]; exact ⟨⟨by omega, growslice_fits (by simp at *; omega) (by omega)⟩, rfl⟩)
          conv => whnf
          refine dropF_zero ?_
          conv => whnf
          refine takeF_row (by first | omega | (simp at *; omega)) (by first | rfl | omega | (dsimp only; omega)) ?_
          conv => whnf
          refine catF_rowN 3 rfl (wdB s) ?_
          conv => whnf
          intro nc2 hc1 hc2
          conv => whnf
          refine catF_row (n := nc2) (by omega) (by omega) ?_
          conv => whnf
          refine Bif.of (fun h5 => ?_) fun h5 => ?_
          · conv => whnf
            refine putF_rowN (f := wdS s) 5 (by first | rfl | omega | (dsimp only; omega)) rfl (by simp at *; omega) (wdC s) ?_
            conv => whnf
            refine Bif.of (fun h6 => ?_) fun h6 => ?_
            · conv => whnf
              refine putF_rowN (f := wdS s) 3 (by first | rfl | omega | (dsimp only; omega)) rfl (by simp at *; omega) (wdD s) ?_
              conv => whnf
              exact wk_words hs rfl rfl (by decide) (by simp at *; omega)
            · conv => whnf
              refine Req.of ?_ ?_
              · (simp only [decide_true, Bool.true_and, Bool.and_true, Bool.and_eq_true, decide_eq_true_eq]; exact ⟨⟨by omega, growslice_fits (by simp at *; omega) (by omega)⟩, rfl⟩)
              conv => whnf
              refine dropF_zero ?_
              conv => whnf
              refine takeF_row (by first | omega | (simp at *; omega)) (by first | rfl | omega | (dsimp only; omega)) ?_
              conv => whnf
              refine catF_rowN 3 rfl (wdD s) ?_
              conv => whnf
              intro nc2 hc1 hc2
              conv => whnf
              refine catF_row (n := nc2) (by omega) (by omega) ?_
              conv => whnf
              exact wk_words hs rfl rfl (by decide) (by simp at *; omega)
          · conv => whnf
            refine Req.of ?_ ?_
            · (simp only [decide_true, Bool.true_and, Bool.and_true, Bool.and_eq_true, decide_eq_true_eq]; exact ⟨⟨by omega, growslice_fits (by simp at *; omega) (by omega)⟩, rfl⟩)
            conv => whnf
            refine dropF_zero ?_
            conv => whnf
            refine takeF_row (by first | omega | (simp at *; omega)) (by first | rfl | omega | (dsimp only; omega)) ?_
            conv => whnf
            refine catF_rowN 5 rfl (wdC s) ?_
            conv => whnf
            intro nc2 hc1 hc2
            conv => whnf
            refine catF_row (n := nc2) (by omega) (by omega) ?_
            conv => whnf
            refine Bif.of (fun h7 => ?_) fun h7 => ?_
            · conv => whnf
              refine putF_rowN (f := wdS s) 3 (by first | rfl | omega | (dsimp only; omega)) rfl (by simp at *; omega) (wdD s) ?_
              conv => whnf
              exact wk_words hs rfl rfl (by decide) (by simp at *; omega)
            · conv => whnf
              refine Req.of ?_ ?_
              · (simp only [decide_true, Bool.true_and, Bool.and_true, Bool.and_eq_true, decide_eq_true_eq]; exact ⟨⟨by omega, growslice_fits (by simp at *; omega) (by omega)⟩, rfl⟩)
              conv => whnf
              refine dropF_zero ?_
              conv => whnf
              refine takeF_row (by first | omega | (simp at *; omega)) (by first | rfl | omega | (dsimp only; omega)) ?_
              conv => whnf
              refine catF_rowN 3 rfl (wdD s) ?_
              conv => whnf
              intro nc2 hc1 hc2
              conv => whnf
              refine catF_row (n := nc2) (by omega) (by omega) ?_
              conv => whnf
              exact wk_words hs rfl rfl (by decide) (by simp at *; omega)
      · conv => whnf
        refine Req.of ?_ ?_
        · (simp only [decide_true, Bool.true_and, Bool.and_true, Bool.and_eq_true, decide_eq_true_eq]; exact ⟨⟨by omega, growslice_fits (by simp at *; omega) (by omega)⟩, rfl⟩)
        conv => whnf
        refine dropF_zero ?_
        conv => whnf
        refine takeF_row (by first | omega | (simp at *; omega)) (by first | rfl | omega | (dsimp only; omega)) ?_
        conv => whnf
        refine catF_rowN 3 rfl (wdA s) ?_
        conv => whnf
        intro nc2 hc1 hc2
        conv => whnf
        refine catF_row (n := nc2) (by omega) (by omega) ?_
        conv => whnf
        refine Bif.of (fun h8 => ?_) fun h8 => ?_
        · conv => whnf
          refine putF_rowN (f := wdS s) 3 (by first | rfl | omega | (dsimp only; omega)) rfl (by simp at *; omega) (wdB s) ?_
          conv => whnf
          refine Bif.of (fun h9 => ?_) fun h9 => ?_
          · conv => whnf
            refine putF_rowN (f := wdS s) 5 (by first | rfl | omega | (dsimp only; omega)) rfl (by simp at *; omega) (wdC s) ?_
            conv => whnf
            refine Bif.of (fun h10 => ?_) fun h10 => ?_
            · conv => whnf
              refine putF_rowN (f := wdS s) 3 (by first | rfl | omega | (dsimp only; omega)) rfl (by simp at *; omega) (wdD s) ?_
              conv => whnf
              exact wk_words hs rfl rfl (by decide) (by simp at *; omega)
            · conv => whnf
              refine Req.of ?_ ?_
              · (simp only [decide_true, Bool.true_and, Bool.and_true, Bool.and_eq_true, decide_eq_true_eq]; exact ⟨⟨by omega, growslice_fits (by simp at *; omega) (by omega)⟩, rfl⟩)
              conv => whnf
              refine dropF_zero ?_
              conv => whnf
              refine takeF_row (by first | omega | (simp at *; omega)) (by first | rfl | omega | (dsimp only; omega)) ?_
              conv => whnf
              refine catF_rowN 3 rfl (wdD s) ?_
              conv => whnf
              intro nc2 hc1 hc2
              conv => whnf
              refine catF_row (n := nc2) (by omega) (by omega) ?_
              conv => whnf
              exact wk_words hs rfl rfl (by decide) (by simp at *; omega)
          · conv => whnf
            refine Req.of ?_ ?_
            · (simp only [decide_true, Bool.true_and, Bool.and_true, Bool.and_eq_true, decide_eq_true_eq]; exact ⟨⟨by omega, growslice_fits (by simp at *; omega) (by omega)⟩, rfl⟩)
            conv => whnf
            refine dropF_zero ?_
            conv => whnf
            refine takeF_row (by first | omega | (simp at *; omega)) (by first | rfl | omega | (dsimp only; omega)) ?_
            conv => whnf
            refine catF_rowN 5 rfl (wdC s) ?_
            conv => whnf
            intro nc2 hc1 hc2
            conv => whnf
            refine catF_row (n := nc2) (by omega) (by omega) ?_
            conv => whnf
            refine Bif.of (fun h11 => ?_) fun h11 => ?_
            · conv => whnf
              refine putF_rowN (f := wdS s) 3 (by first | rfl | omega | (dsimp only; omega)) rfl (by simp at *; omega) (wdD s) ?_
              conv => whnf
              exact wk_words hs rfl rfl (by decide) (by simp at *; omega)
            · conv => whnf
              refine Req.of ?_ ?_
              · (simp only [decide_true, Bool.true_and, Bool.and_true, Bool.and_eq_true, decide_eq_true_eq]; exact ⟨⟨by omega, growslice_fits (by simp at *; omega) (by omega)⟩, rfl⟩)
              conv => whnf
              refine dropF_zero ?_
              conv => whnf
              refine takeF_row (by first | omega | (simp at *; omega)) (by first | rfl | omega | (dsimp only; omega)) ?_
              conv => whnf
              refine catF_rowN 3 rfl (wdD s) ?_
              conv => whnf
              intro nc2 hc1 hc2
              conv => whnf
              refine catF_row (n := nc2) (by omega) (by omega) ?_
              conv => whnf
              exact wk_words hs rfl rfl (by decide) (by simp at *; omega)
        · conv => whnf
          refine Req.of ?_ ?_
          · (simp only [decide_true, Bool.true_and, Bool.and_true, Bool.and_eq_true, decide_eq_true_eq]; exact ⟨⟨by omega, growslice_fits (by simp at *; omega) (by omega)⟩, rfl⟩)
          conv => whnf
          refine dropF_zero ?_
          conv => whnf
          refine takeF_row (by first | omega | (simp at *; omega)) (by first | rfl | omega | (dsimp only; omega)) ?_
          conv => whnf
          refine catF_rowN 3 rfl (wdB s) ?_
          conv => whnf
          intro nc2 hc1 hc2
          conv => whnf
          refine catF_row (n := nc2) (by omega) (by omega) ?_
          conv => whnf
          refine Bif.of (fun h12 => ?_) fun h12 => ?_
          · conv => whnf
            refine putF_rowN (f := wdS s) 5 (by first | rfl | omega | (dsimp only; omega)) rfl (by simp at *; omega) (wdC s) ?_
            conv => whnf
            refine Bif.of (fun h13 => ?_) fun h13 => ?_
            · conv => whnf
              refine putF_rowN (f := wdS s) 3 (by first | rfl | omega | (dsimp only; omega)) rfl (by simp at *; omega) (wdD s) ?_
              conv => whnf
              exact wk_words hs rfl rfl (by decide) (by simp at *; omega)
            · conv => whnf
              refine Req.of ?_ ?_
              · (simp only [decide_true, Bool.true_and, Bool.and_true, Bool.and_eq_true, decide_eq_true_eq]; exact ⟨⟨by omega, growslice_fits (by simp at *; omega) (by omega)⟩, rfl⟩)
              conv => whnf
              refine dropF_zero ?_
              conv => whnf
              refine takeF_row (by first | omega | (simp at *; omega)) (by first | rfl | omega | (dsimp only; omega)) ?_
              conv => whnf
              refine catF_rowN 3 rfl (wdD s) ?_
              conv => whnf
              intro nc2 hc1 hc2
              conv => whnf
              refine catF_row (n := nc2) (by omega) (by omega) ?_
              conv => whnf
              exact wk_words hs rfl rfl (by decide) (by simp at *; omega)
          · conv => whnf
            refine Req.of ?_ ?_
            · (simp only [decide_true, Bool.true_and, Bool.and_true, Bool.and_eq_true, decide_eq_true_eq]; exact ⟨⟨by omega, growslice_fits (by simp at *; omega) (by omega)⟩, rfl⟩)
            conv => whnf
            refine dropF_zero ?_
            conv => whnf
            refine takeF_row (by first | omega | (simp at *; omega)) (by first | rfl | omega | (dsimp only; omega)) ?_
            conv => whnf
            refine catF_rowN 5 rfl (wdC s) ?_
            conv => whnf
            intro nc2 hc1 hc2
            conv => whnf
            refine catF_row (n := nc2) (by omega) (by omega) ?_
            conv => whnf
            refine Bif.of (fun h14 => ?_) fun h14 => ?_
            · conv => whnf
              refine putF_rowN (f := wdS s) 3 (by first | rfl | omega | (dsimp only; omega)) rfl (by simp at *; omega) (wdD s) ?_
              conv => whnf
              exact wk_words hs rfl rfl (by decide) (by simp at *; omega)
            · conv => whnf
              refine Req.of ?_ ?_
              · (simp only [decide_true, Bool.true_and, Bool.and_true, Bool.and_eq_true, decide_eq_true_eq]; exact ⟨⟨by omega, growslice_fits (by simp at *; omega) (by omega)⟩, rfl⟩)
              conv => whnf
              refine dropF_zero ?_
              conv => whnf
              refine takeF_row (by first | omega | (simp at *; omega)) (by first | rfl | omega | (dsimp only; omega)) ?_
              conv => whnf
              refine catF_rowN 3 rfl (wdD s) ?_
              conv => whnf
              intro nc2 hc1 hc2
              conv => whnf
              refine catF_row (n := nc2) (by omega) (by omega) ?_
              conv => whnf
              exact wk_words hs rfl rfl (by decide) (by simp at *; omega)
end Go.Proofs
