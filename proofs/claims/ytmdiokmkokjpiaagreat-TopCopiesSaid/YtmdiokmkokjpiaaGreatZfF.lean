/-
  Walks through the functions of the program, by contract.
-/
import Derived.Test.YtmdiokmkokjpiaaGreatZeF
import Derived.Test.YtmdiokmkokjpiaaGreatCoreE
set_option linter.all false
set_option linter.unusedVariables false
set_option linter.unusedSimpArgs false
set_option linter.unnecessarySimpa false
namespace Go.Proofs
open Go.Aw
set_option maxRecDepth 100000
set_option maxHeartbeats 8000000
theorem srs_mix {μ : List Nat} {ts fr l : List Value} (h : SRs μ ts l) (hm : mix ts fr = fr) : SRs μ fr l := by
  obtain ⟨hl, hk⟩ := mix_iff hm
  refine ⟨by rw [← hl]; exact h.1, fun i x y hx hy => ?_⟩
  have hi : i < ts.length := by rw [hl]; exact (List.getElem?_eq_some_iff.1 hx).1
  rcases hk i x _ hx (List.getElem?_eq_getElem hi) with e | e
  · exact .inl e
  · exact h.2 i x y (by rw [e]; exact List.getElem?_eq_getElem hi) hy
/-- Is a bit of the delay line set? -/
def bt (ln k : Nat) : Bool := decide (ln / 2 ^ k % 2 = 1)
/-- The ages from a bit on. -/
def agesF (ln : Nat) (sc : Int) : Nat → Nat → List Int
  | 0, _ => [sc]
  | m + 1, k => if bt ln k then (k : Int) :: agesF ln sc m (k + 1) else agesF ln sc m (k + 1)
theorem agesF_ne (ln : Nat) (sc : Int) : ∀ m k, agesF ln sc m k ≠ []
  | 0, _ => by simp [agesF]
  | m + 1, k => by unfold agesF; split; (simp); (exact agesF_ne ln sc m (k + 1))
theorem bit_eq {ln k : Nat} (hln : ln < 256) (hk : k < 8) : (bits .and .u16 ((ln : Int).fdiv (2 ^ min ((k : Nat) : Int).toNat IntKind.u16.bits)) 1 != 0) = bt ln k := by
  have key : ∀ (n : Fin 256) (k : Fin 8), (bits .and .u16 (((n.val : Nat) : Int).fdiv (2 ^ min ((k.val : Nat) : Int).toNat IntKind.u16.bits)) 1 != 0) = bt n.val k.val := by decide +kernel
  exact key ⟨ln, hln⟩ ⟨k, hk⟩
/-- The heap while the ages are gone through. -/
def hbO : Option Int → Int
  | none => 255
  | some a => a
def hbN : Option Int → Int
  | none => 0
  | some _ => 1
def hbA (p ln sc : Nat) (s : Option Int) : List Blk := thH p ln sc ++ [.cells [.int .i64 0, .int .i64 0] 132, .cells [.int .i64 (hbO s), .int .i64 255] 132, .cells [.int .i64 (hbN s)] 3, .cells [.pointer (some ⟨0, 0, none⟩)] 53]
/-- What has come of it. -/
def GA (JJ : Option Int → World → Prop) (JXX : Int → Int → World → Prop) : Option Int → List Int → World → Prop
  | none, [x], W => JJ (some x) W
  | none, x :: y :: _, W => JXX x y W
  | some a, x :: _, W => JXX a x W
  | _, [], _ => False
theorem GA_yield {JJ : Option Int → World → Prop} {JXX : Int → Int → World → Prop} {x : Int} {l : List Int} {W : World} (hl : l ≠ []) (h : GA JJ JXX (some x) l W) : GA JJ JXX none (x :: l) W := by
  cases l with
  | nil => exact absurd rfl hl
  | cons y l => exact h
abbrev frA (k : Nat) : List Value := [junk, .pointer (some ⟨8, 0, none⟩), junk, junk, .int .i64 k, junk, junk, junk, junk, junk, junk, junk, junk, junk, junk, junk, junk, junk, junk, junk, junk, junk, junk, junk, junk, junk, junk, junk]
theorem ages_iter {μ : List Nat} {l p ln sc : Nat} (hln : ln < 256) {c1 : Nat} (hc1 : μ[8]? = some c1) (JJ : Option Int → World → Prop) (JXX : Int → Int → World → Prop) (hJ : ∀ s W, JJ s W → Rel μ (hbA p ln sc s) W)
    (hy : ∀ s (v : Int) W, JJ s W → YieldAt Fence.wide 0 Tryz.prog l #[.int .i64 v] W fun e W' => (e = .returned (.bool true) ∧ s = none ∧ JJ (some v) W') ∨ (e = .returned (.bool false) ∧ ∃ a, s = some a ∧ JXX a v W'))
    (hX : ∀ a v W, JXX a v W → ∃ μ' H', Rel μ' H' W ∧ ∀ (i b : Nat), μ[i]? = some b → μ'[i]? = some b) (W : World) (h0 : JJ none W) : CallsIn Fence.wide 0 Tryz.prog 115 #[.func (.yield l) #[] #[], .pointer (some ⟨c1, 0, none⟩)] W fun e W' => (∃ v, e = .returned v) ∧ GA JJ JXX none (agesF ln sc 8 0) W' := by
  refine callsIn_of_wp Tryz.func115 rfl trivial ?_
  have hres : Tryz.f115.results = #[] := rfl
  have hint : ∀ (v : Int) (cv : Value), VR μ (.int .i64 v) cv → cv = .int .i64 v := fun v cv h => by cases h; rfl
  have key : ∀ (m k : Nat) (s : Option Int) (a : Act) (W : World), k + m = 8 → SRs μ (frA k) a.tmps.toList → a.tmps[0]? = some (.func (.yield l) #[] #[]) → a.defers = [] → JJ s W → (∀ W', GA JJ JXX s (agesF ln sc m k) W' → GA JJ JXX none (agesF ln sc 8 0) W') →
      Code.roundsIn Fence.wide 0 Tryz.prog (match Tryz.f115.body with | some (.seq (.seq _ (.block _ (.loop c))) _) => c | _ => .skip) (Exit.inBlock 0 (Exit.then ((match Tryz.f115.body with | some (.seq _ c) => c | _ => .skip).wpIn Fence.wide 0 Tryz.prog (bodyPost Tryz.prog Tryz.f115 fun e W' => (∃ v, e = Ending.returned v) ∧ GA JJ JXX none (agesF ln sc 8 0) W')) (bodyPost Tryz.prog Tryz.f115 fun e W' => (∃ v, e = Ending.returned v) ∧ GA JJ JXX none (agesF ln sc 8 0) W'))) (m + 1) a W := by
    intro m
    induction m with
    | zero =>
      intro k s a W hkm hv h0 hd hj hG
      obtain rfl : k = 8 := by omega
      rw [roundsIn_succ]
      refine wpIn_seq (wpIn_region ?_)
      refine WY.out (μ := μ) (J := JJ s) (l := l) (ms := [0]) (ts := frA 8) (L := [0]) ?_ a W hv hj hd (fun m hm => by simp at hm; subst hm; exact h0)
      refine wy_quiet tabOk (hJ s) rfl rfl rfl rfl ?_
      conv => whnf
      refine ⟨fun a W hv hj hd hms => ?_⟩
      refine wpIn_seq ?_
      obtain ⟨y, hy5, hs5⟩ := hv.get (i := 5) rfl
      have h5 : a.eval (.tmp 5) = .bool false := by
        have : a.tmps[5]? = some y := by simpa using hy5
        have hyv := hs5.resolve_left (by simp [junk])
        cases hyv
        simp [Act.eval, this]
      refine wpIn_cond_false h5 (wpIn_exit ?_)
      simp only [Exit.then, Exit.inBlock, if_true]
      refine wpIn_region ?_
      refine WY.out (μ := μ) (J := JJ s) (l := l) (ms := [0]) (ts := frA 8) (L := [0, 1, 2, 3, 4, 5]) ?_ a W (srs_mix hv rfl) hj hd (fun m hm => by simp at hm; subst hm; exact hms 0 (by simp))
      refine wy_move rfl rfl rfl (by simp) (by simp) (by simp) ?_
      conv => whnf
      refine wy_quiet tabOk (hJ s) rfl rfl rfl rfl ?_
      conv => whnf
      refine wy_quiet tabOk (hJ s) rfl rfl rfl rfl ?_
      conv => whnf
      refine wy_quiet tabOk (hJ s) rfl rfl rfl rfl ?_
      conv => whnf
      cases s with
      | none =>
        refine wy_quiet tabOk (hJ none) rfl rfl rfl rfl ?_
        conv => whnf
        refine wy_call rfl rfl rfl (by simp) rfl (by simp [junk]) (hint _) (by simp) (hy none _) (by (conv => whnf); trivial) ?_
        rintro e W' (⟨rfl, _, hj'⟩ | ⟨_, x, hx, _⟩)
        · refine ⟨true, rfl, fun a hv hd hms => ?_⟩
          refine ⟨hd, .tuple #[], ?_, ⟨_, rfl⟩, hG W' hj'⟩
          simp [results, hres]
        · cases hx
      | some z =>
        refine wy_quiet tabOk (hJ (some z)) rfl rfl rfl rfl ?_
        conv => whnf
        refine wy_call rfl rfl rfl (by simp) rfl (by simp [junk]) (hint _) (by simp) (hy (some z) _) (by (conv => whnf); trivial) ?_
        rintro e W' (⟨_, hx, _⟩ | ⟨rfl, x, hx, hj'⟩)
        · cases hx
        · cases hx
          refine ⟨false, rfl, fun a hv hd hms => ?_⟩
          refine ⟨hd, .tuple #[], ?_, ⟨_, rfl⟩, hG W' hj'⟩
          simp [results, hres]
    | succ m ih =>
      intro k s a W hkm hv h0 hd hj hG
      have hk8 : k < 8 := by omega
      have hlt : decide ((k : Int) < 8) = true := decide_eq_true (by omega)
      have hbit := bit_eq hln hk8
      have ek : IntKind.i64.wrap ((k : Int) + 1) = ((k + 1 : Nat) : Int) := by rw [wrap64 (by omega) (by omega)]; rfl
      have hk0 : decide ((0 : Int) ≤ (k : Int)) = true := decide_eq_true (by omega)
      rw [roundsIn_succ]
      refine wpIn_seq (wpIn_region ?_)
      refine WY.out (μ := μ) (J := JJ s) (l := l) (ms := [0]) (ts := frA k) (L := [0]) ?_ a W hv hj hd (fun m hm => by simp at hm; subst hm; exact h0)
      refine wy_quiet tabOk (hJ s) rfl rfl rfl rfl ?_
      conv => whnf
      rw [hlt]
      refine ⟨fun a W hv hj hd hms => ?_⟩
      refine wpIn_seq ?_
      obtain ⟨y, hy5, hs5⟩ := hv.get (i := 5) rfl
      have h5 : a.eval (.tmp 5) = .bool true := by
        have : a.tmps[5]? = some y := by simpa using hy5
        have hyv := hs5.resolve_left (by simp [junk])
        cases hyv
        simp [Act.eval, this]
      refine wpIn_cond_true h5 (wpIn_skip ?_)
      refine wpIn_seq (wpIn_block (wpIn_seq (wpIn_region ?_)))
      refine WY.out (μ := μ) (J := JJ s) (l := l) (ms := [0]) (ts := frA k) (L := [0, 1]) ?_ a W (srs_mix hv rfl) hj hd hms
      refine wy_quiet tabOk (hJ s) rfl rfl rfl rfl ?_
      conv => whnf
      refine wy_quiet tabOk (hJ s) rfl rfl rfl rfl ?_
      conv => whnf
      refine ⟨fun a W hv hj hd hms => ?_⟩
      refine wpIn_seq (wpIn_region ?_)
      cases hb : bt ln k with
      | false =>
        have hG' : ∀ W', GA JJ JXX s (agesF ln sc m (k + 1)) W' → GA JJ JXX none (agesF ln sc 8 0) W' := fun W' h => hG W' (by unfold agesF; rw [hb]; exact h)
        rw [hb] at hbit
        refine WY.out (μ := μ) (J := JJ s) (l := l) (ms := [0]) (L := [0, 1, 2, 3, 4, 5, 6, 7, 8, 9, 10, 11, 12, 13]) ?_ a W hv hj hd hms
        refine wy_quiet tabOk (hJ s) rfl rfl rfl rfl ?_
        conv => whnf
        refine wy_quiet tabOk (hJ s) rfl rfl rfl rfl ?_
        conv => whnf
        refine wy_quiet tabOk (hJ s) rfl rfl rfl rfl ?_
        conv => whnf
        refine wy_quiet tabOk (hJ s) rfl rfl rfl rfl ?_
        conv => whnf
        refine wy_quiet tabOk (hJ s) rfl rfl rfl rfl ?_
        conv => whnf
        refine wy_quiet tabOk (hJ s) rfl rfl rfl rfl ?_
        conv => whnf
        refine wy_quiet tabOk (hJ s) rfl rfl rfl rfl ?_
        conv => whnf
        refine wy_quiet tabOk (hJ s) rfl rfl rfl rfl ?_
        conv => whnf
        rw [hbit]
        refine wy_quiet tabOk (hJ s) rfl rfl rfl rfl ?_
        conv => whnf
        refine wy_move rfl rfl rfl (by simp) (by simp) (by simp) ?_
        conv => whnf
        refine wy_quiet tabOk (hJ s) rfl rfl rfl rfl ?_
        conv => whnf
        refine wy_skip rfl rfl ?_
        conv => whnf
        refine wy_quiet tabOk (hJ s) rfl rfl rfl rfl ?_
        conv => whnf
        refine wy_quiet tabOk (hJ s) rfl rfl rfl rfl ?_
        conv => whnf
        refine ⟨fun a W hv hj hd hms => ?_⟩
        obtain ⟨y, hy20, hs20⟩ := hv.get (i := 20) rfl
        have h20 : a.eval (.tmp 20) = .bool false := by
          have : a.tmps[20]? = some y := by simpa using hy20
          have hyv := hs20.resolve_left (by simp [junk])
          cases hyv
          simp [Act.eval, this]
        refine wpIn_cond_false h20 (wpIn_skip ?_)
        refine wpIn_region ?_
        refine WY.out (μ := μ) (J := JJ (s)) (l := l) (ms := [0]) (ts := frA k) (L := [0, 1]) ?_ a W (srs_mix hv rfl) hj hd (fun m hm => by simp at hm; subst hm; exact hms 0 (by simp))
        refine wy_quiet tabOk (hJ _) rfl rfl rfl rfl ?_
        conv => whnf
        rw [ek]
        refine wy_quiet tabOk (hJ _) rfl rfl rfl rfl ?_
        conv => whnf
        refine ⟨fun a W hv hj hd hms => ?_⟩
        exact ih (k + 1) _ a W (by omega) (srs_mix hv rfl) (hms 0 (by simp)) hd hj hG'
      | true =>
        rw [hb] at hbit
        have hne := agesF_ne ln sc m (k + 1)
        refine WY.out (μ := μ) (J := JJ s) (l := l) (ms := [0]) (L := [0, 1, 2, 3, 4, 5, 6, 7, 8, 9, 10, 11, 12, 13]) ?_ a W hv hj hd hms
        refine wy_quiet tabOk (hJ s) rfl rfl rfl rfl ?_
        conv => whnf
        refine wy_quiet tabOk (hJ s) rfl rfl rfl rfl ?_
        conv => whnf
        refine wy_quiet tabOk (hJ s) rfl rfl rfl rfl ?_
        conv => whnf
        refine wy_quiet tabOk (hJ s) rfl rfl rfl rfl ?_
        conv => whnf
        refine wy_quiet tabOk (hJ s) rfl rfl rfl rfl ?_
        conv => whnf
        refine wy_quiet tabOk (hJ s) rfl rfl rfl rfl ?_
        conv => whnf
        refine wy_quiet tabOk (hJ s) rfl rfl rfl rfl ?_
        conv => whnf
        refine wy_quiet tabOk (hJ s) rfl rfl rfl rfl ?_
        conv => whnf
        rw [hbit]
        refine wy_quiet tabOk (hJ s) rfl rfl rfl rfl ?_
        conv => whnf
        refine wy_move rfl rfl rfl (by simp) (by simp) (by simp) ?_
        conv => whnf
        refine wy_quiet tabOk (hJ s) rfl rfl rfl rfl ?_
        conv => whnf
        cases s with
        | none =>
          refine wy_call rfl rfl rfl (by simp) rfl (by simp [junk]) (hint _) (by simp) (hy none _) (by (conv => whnf); trivial) ?_
          rintro e W' (⟨rfl, _, hj'⟩ | ⟨_, x, hx, _⟩)
          · refine ⟨true, rfl, fun a hv hd hms => ?_⟩
            refine WY.out (μ := μ) (J := JJ (some (k : Int))) (l := l) (ms := [16, 0]) (L := [12, 13]) ?_ a W' hv hj' hd hms
            refine wy_quiet tabOk (hJ _) rfl rfl rfl rfl ?_
            conv => whnf
            refine wy_quiet tabOk (hJ _) rfl rfl rfl rfl ?_
            conv => whnf
            refine ⟨fun a W hv hj hd hms => ?_⟩
            obtain ⟨y, hy20, hs20⟩ := hv.get (i := 20) rfl
            have h20 : a.eval (.tmp 20) = .bool false := by
              have : a.tmps[20]? = some y := by simpa using hy20
              have hyv := hs20.resolve_left (by simp [junk])
              cases hyv
              simp [Act.eval, this]
            refine wpIn_cond_false h20 (wpIn_skip ?_)
            have hG' : ∀ W', GA JJ JXX (some (k : Int)) (agesF ln sc m (k + 1)) W' → GA JJ JXX none (agesF ln sc 8 0) W' := fun W' h => hG W' (by unfold agesF; rw [hb]; exact GA_yield hne h)
            refine wpIn_region ?_
            refine WY.out (μ := μ) (J := JJ (some (k : Int))) (l := l) (ms := [0]) (ts := frA k) (L := [0, 1]) ?_ a W (srs_mix hv rfl) hj hd (fun m hm => by simp at hm; subst hm; exact hms 0 (by simp))
            refine wy_quiet tabOk (hJ _) rfl rfl rfl rfl ?_
            conv => whnf
            rw [ek]
            refine wy_quiet tabOk (hJ _) rfl rfl rfl rfl ?_
            conv => whnf
            refine ⟨fun a W hv hj hd hms => ?_⟩
            exact ih (k + 1) _ a W (by omega) (srs_mix hv rfl) (hms 0 (by simp)) hd hj hG'
          · cases hx
        | some z =>
          refine wy_call rfl rfl rfl (by simp) rfl (by simp [junk]) (hint _) (by simp) (hy (some z) _) (by (conv => whnf); trivial) ?_
          rintro e W' (⟨_, hx, _⟩ | ⟨rfl, x, hx, hj'⟩)
          · cases hx
          · cases hx
            refine ⟨false, rfl, fun a hv hd hms => ?_⟩
            obtain ⟨μ', H', hr', hsub⟩ := hX z (k : Int) W' hj'
            refine WY.out (μ := μ') (J := fun W2 => W2 = W') (l := l) (ms := [16, 0]) (L := [12, 13]) ?_ a W' (hv.mono hsub) rfl hd hms
            refine wy_quiet (H := H') tabOk (fun W2 hW => by rw [hW]; exact hr') rfl rfl rfl rfl ?_
            conv => whnf
            refine wy_quiet (H := H') tabOk (fun W2 hW => by rw [hW]; exact hr') rfl rfl rfl rfl ?_
            conv => whnf
            refine ⟨fun a W hv hj hd hms => ?_⟩
            subst hj
            obtain ⟨y, hy20, hs20⟩ := hv.get (i := 20) rfl
            have h20 : a.eval (.tmp 20) = .bool true := by
              have : a.tmps[20]? = some y := by simpa using hy20
              have hyv := hs20.resolve_left (by simp [junk])
              cases hyv
              simp [Act.eval, this]
            refine wpIn_cond_true h20 (wpIn_ret ?_)
            have hne := agesF_ne ln sc m (k + 1)
            refine ⟨hd, .tuple #[], ?_, ⟨_, rfl⟩, hG W ?_⟩
            · simp [results, hres]
            · unfold agesF; rw [hb]; exact hj'
  generalize hA : (#[.func (.yield l) #[] #[], .pointer (some ⟨c1, 0, none⟩)] ++ Array.replicate (Tryz.f115.ntmps - (#[.func (.yield l) #[] #[], .pointer (some ⟨c1, 0, none⟩)] : Array Value).size) undef) = A
  have hA2 : A.toList = [.func (.yield l) #[] #[], .pointer (some ⟨c1, 0, none⟩)] ++ List.replicate 26 undef := by
    rw [← hA, Array.toList_append, Array.toList_replicate]
    rfl
  have hA0 : A[0]? = some (.func (.yield l) #[] #[]) := by
    rw [← Array.getElem?_toList, hA2]; rfl
  have hvA : SRs μ [junk, .pointer (some ⟨8, 0, none⟩), junk, junk, junk, junk, junk, junk, junk, junk, junk, junk, junk, junk, junk, junk, junk, junk, junk, junk, junk, junk, junk, junk, junk, junk, junk, junk] A.toList := by
    rw [hA2]
    refine srs_mix (ts := [junk, .pointer (some ⟨8, 0, none⟩)] ++ List.replicate 26 undef) ?_ rfl
    have h2 : SRs μ [junk, .pointer (some ⟨8, 0, none⟩)] [.func (.yield l) #[] #[], .pointer (some ⟨c1, 0, none⟩)] := ⟨rfl, fun i x y hx hy => by
      match i with
      | 0 => simp at hx; subst hx; exact .inl rfl
      | 1 => simp at hx hy; subst hx; subst hy; exact .inr (.ptr _ _ _ hc1)
      | i + 2 => simp at hx⟩
    have h3 : SRs μ (List.replicate 26 undef) (List.replicate 26 undef) := (VRs.replicate 26 VR.undef).sr
    refine ⟨by simp, fun i x y hx hy => ?_⟩
    by_cases hi : i < 2
    · rw [List.getElem?_append_left (by simpa using hi)] at hx hy
      exact h2.2 i x y hx hy
    · rw [List.getElem?_append_right (by simp; omega)] at hx hy
      exact h3.2 _ x y hx hy
  clear hA hA2
  refine wpIn_seq (wpIn_seq (wpIn_region ?_))
  refine WY.out (μ := μ) (J := JJ none) (l := l) (ms := [0]) (L := [0]) ?_ _ W hvA h0 rfl (fun m hm => by simp at hm; subst hm; exact hA0)
  refine wy_quiet tabOk (hJ none) rfl rfl rfl rfl ?_
  conv => whnf
  refine ⟨fun a W hv hj hd hms => ?_⟩
  refine wpIn_block (wpIn_loop_rounds 9 ?_)
  exact key 8 0 none a W rfl hv (hms 0 (by simp)) hd hj (fun W' h => h)
end Go.Proofs
