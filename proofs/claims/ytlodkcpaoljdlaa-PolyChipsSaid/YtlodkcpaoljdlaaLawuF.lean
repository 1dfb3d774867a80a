/-
  Walks through the functions of the program, by contract.
-/
import Derived.Test.YtlodkcpaoljdlaaLawtF
set_option linter.all false
set_option linter.unusedVariables false
set_option linter.unusedSimpArgs false
set_option linter.unnecessarySimpa false
namespace Go.Proofs
open Go.Aw
set_option maxRecDepth 100000
set_option maxHeartbeats 4000000
theorem place16_hit (b n t : Int) (hn : 1 ≤ n ∧ n ≤ 16 ∧ 0 ≤ t) (s : Int) (k0 : Nat) (hlt : k0 ≤ 100000) (hb : ∀ k, k < k0 → itX16 n t 0 k ≠ s ∧ (k = 0 ∨ itX16 n t 0 k ≠ 0)) (he : itX16 n t 0 k0 = s) : ACalls Try.prog 28 [.pointer (some ⟨0, 0, none⟩), .int .u16 s] [.cells [.int .u16 b, .int .i64 n, .int .i64 t] 81] fun v H => v = .tuple #[.int .i64 k0, .bool true] ∧ H = [.cells [.int .u16 b, .int .i64 n, .int .i64 t] 81] := by
  have := place16 b n t hn s k0 hlt hb (.inl he)
  rw [if_pos he, show decide (itX16 n t 0 k0 = s) = true from decide_eq_true he] at this
  exact this
theorem place16_miss (b n t : Int) (hn : 1 ≤ n ∧ n ≤ 16 ∧ 0 ≤ t) (s : Int) (k0 : Nat) (hlt : k0 ≤ 100000) (hb : ∀ k, k < k0 → itX16 n t 0 k ≠ s ∧ (k = 0 ∨ itX16 n t 0 k ≠ 0)) (he : itX16 n t 0 k0 ≠ s) (h0 : itX16 n t 0 k0 = 0 ∧ 0 < k0) : ACalls Try.prog 28 [.pointer (some ⟨0, 0, none⟩), .int .u16 s] [.cells [.int .u16 b, .int .i64 n, .int .i64 t] 81] fun v H => v = .tuple #[.int .i64 0, .bool false] ∧ H = [.cells [.int .u16 b, .int .i64 n, .int .i64 t] 81] := by
  have := place16 b n t hn s k0 hlt hb (.inr h0)
  rw [if_neg he, show decide (itX16 n t 0 k0 = s) = false from decide_eq_false he] at this
  exact this
theorem place_ex {nn tt : Nat} (h : 1 ≤ tt ∧ tt < nn ∧ nn ≤ 16) (s : Int) : ∃ k0 : Nat, k0 ≤ 2 ^ nn ∧ (∀ k, k < k0 → itI nn tt k 0 ≠ s ∧ (k = 0 ∨ itI nn tt k 0 ≠ 0)) ∧ (itI nn tt k0 0 = s ∨ (itI nn tt k0 0 = 0 ∧ 0 < k0)) := by
  obtain ⟨p, h1, h2, h3⟩ := itI_back (n := nn) (t := tt) (by omega) (s := 0) ⟨Int.le_refl _, Int.pow_pos (by decide)⟩
  obtain ⟨m, g1, g2, g3⟩ := least (p := fun k => itI nn tt k 0 = s ∨ (itI nn tt k 0 = 0 ∧ 0 < k)) p (.inr ⟨h3, by omega⟩)
  refine ⟨m, by omega, fun k hk => ⟨fun e => g3 k hk (.inl e), ?_⟩, g2⟩
  by_cases hk0 : k = 0
  · exact .inl hk0
  · exact .inr fun e => g3 k hk (.inr ⟨e, by omega⟩)
theorem walk_PolyPlaces (n t s k : Int) (wn : (Lit.int .i64 n).wf = true) (wt : (Lit.int .i64 t).wf = true) (ws : (Lit.int .u16 s).wf = true) (wk : (Lit.int .i64 k).wf = true) :
    ACalls Try.prog 5 [.agg #[.int .i64 n, .int .i64 t, .int .u16 s, .int .i64 k]] [] fun v _ => v = .bool true := by
  have hs := wf_u16 ws
  have es : IntKind.i64.wrap s = s := wrap64 (by omega) (by omega)
  by_cases h9 : n ≤ 9
  · by_cases hR : 2 ≤ n ∧ n ≤ 16 ∧ 1 ≤ t ∧ t < n
    · obtain ⟨nn, rfl⟩ : ∃ nn : Nat, n = nn := ⟨n.toNat, by omega⟩
      obtain ⟨tt, rfl⟩ : ∃ tt : Nat, t = tt := ⟨t.toNat, by omega⟩
      have hp := pow16_le (nn := nn) (by omega)
      have hpI := pow16I (nn := nn) (by omega)
      obtain ⟨k0, hk0, hbI, heI⟩ := place_ex (nn := nn) (tt := tt) (by omega) s
      have hx0 : ∀ k : Nat, itX16 nn tt 0 k = itI nn tt k 0 := itX16_eq (n := nn) (t := tt) (by omega) ⟨Int.le_refl _, hpI.2.1⟩
      have hbX : ∀ k, k < k0 → itX16 nn tt 0 k ≠ s ∧ (k = 0 ∨ itX16 nn tt 0 k ≠ 0) := fun k hk => by rw [hx0]; exact hbI k hk
      have hbW : ∀ k, k < k0 → itI nn tt k 0 ≠ IntKind.i64.wrap s ∧ (k = 0 ∨ itI nn tt k 0 ≠ 0) := by rw [es]; exact hbI
      by_cases hF : s < 2 ^ nn
      · have hFS : 0 ≤ s ∧ s < 2 ^ (nn : Int).toNat := ⟨hs.1, hF⟩
        have hFSW : 0 ≤ IntKind.i64.wrap s ∧ IntKind.i64.wrap s < 2 ^ (nn : Int).toNat := by rw [es]; exact hFS
        obtain ⟨k1, hk1, hb1, he1⟩ := period_ex (nn := nn) (tt := tt) (by omega) hFS
        have hxs : ∀ k : Nat, itX16 nn tt s k = itI nn tt k s := itX16_eq (n := nn) (t := tt) (by omega) ⟨hs.1, hF⟩
        have hb1S : ∀ k, k < k1 → itI nn tt (k + 1) s ≠ s := fun k hk => by rw [← hxs]; exact hb1 k hk
        have he1S : itI nn tt (k1 + 1) s = s := by rw [← hxs]; exact he1
        have hb1W : ∀ k, k < k1 → itI nn tt (k + 1) (IntKind.i64.wrap s) ≠ IntKind.i64.wrap s := fun k hk => by rw [es, ← hxs]; exact hb1 k hk
        have he1W : itI nn tt (k1 + 1) (IntKind.i64.wrap s) = IntKind.i64.wrap s := by rw [es, ← hxs]; exact he1
        by_cases hq : itI nn tt k0 0 = s
        · have heX : itX16 nn tt 0 k0 = s := by rw [hx0]; exact hq
          have heW : itI nn tt k0 0 = IntKind.i64.wrap s := by rw [es]; exact hq
          refine ACalls.code tabOk h5 Try.func5 Try.call5 ok5 ?_
          conv => whnf
          refine Bif.knF ?_ fun h0 => ?_
          · (simp; omega)
          rw [h0]
          conv => whnf
          refine ACalls.useE (poly16_new _ _ hR) [] rfl (by (conv => whnf); try rfl) (by (conv => whnf); try rfl) ?_
          conv => whnf
          refine ACalls.useE (place16_hit _ _ _ ?_ _ k0 ?_ hbX heX) [1] rfl (by (conv => whnf); try rfl) (by (conv => whnf); try rfl) ?_
          · omega
          · omega
          conv => whnf
          refine ACalls.useE (ref_right_ok _ _ _ hR (by decide)) [] rfl (by (conv => whnf); try rfl) (by (conv => whnf); try rfl) ?_
          conv => whnf
          refine ACalls.useE (ref_fitsI _ _ ?_ ?_) [] rfl (by (conv => whnf); try rfl) (by (conv => whnf); try rfl) ?_
          · omega
          · omega
          conv => whnf
          rw [es]
          conv => whnf
          refine Bif.knT ?_ fun h1 => ?_
          · (simp [es, hF]; done)
          rw [h1]
          conv => whnf
          refine ACalls.useE (ref_place_hit (nn : Int) (tt : Int) _ ?_ k0 hk0 hbW heW) [] rfl (by (conv => whnf); try rfl) (by (conv => whnf); try rfl) ?_
          · omega
          conv => whnf
          rw [es]
          conv => whnf
          refine Bif.knF ?_ fun h2 => ?_
          · (simp [es, hF]; done)
          rw [h2]
          conv => whnf
          refine ACalls.useE (poly16_set _ _ _ _ ?_ hFS ?_) [1] rfl (by (conv => whnf); try rfl) (by (conv => whnf); try rfl) ?_
          · omega
          · omega
          conv => whnf
          refine ACalls.useE (period16 _ _ _ ?_ k1 ?_ hb1 he1) [1] rfl (by (conv => whnf); try rfl) (by (conv => whnf); try rfl) ?_
          · omega
          · omega
          conv => whnf
          rw [es]
          conv => whnf
          refine ⟨rfl, ?_⟩
          conv => whnf
          refine ⟨rfl, ?_⟩
          conv => whnf
          refine ⟨rfl, ?_⟩
          conv => whnf
          refine ACalls.useE (ref_periodI (nn : Int) (tt : Int) _ ?_ hFS k1 hk1 hb1S he1S) [] rfl (by (conv => whnf); try rfl) (by (conv => whnf); try rfl) ?_
          · omega
          conv => whnf
          refine Bif.knT ?_ fun h3 => ?_
          · (simp [es, hF]; done)
          rw [h3]
          conv => whnf
          refine ACalls.useE (awake01) [] rfl (by (conv => whnf); try rfl) (by (conv => whnf); try rfl) ?_
          conv => whnf
        · have h0I := heI.resolve_left hq
          have heX : itX16 nn tt 0 k0 ≠ s := by rw [hx0]; exact hq
          have heW : itI nn tt k0 0 ≠ IntKind.i64.wrap s := by rw [es]; exact hq
          have h0X : itX16 nn tt 0 k0 = 0 ∧ 0 < k0 := by rw [hx0]; exact h0I
          refine ACalls.code tabOk h5 Try.func5 Try.call5 ok5 ?_
          conv => whnf
          refine Bif.knF ?_ fun h0 => ?_
          · (simp; omega)
          rw [h0]
          conv => whnf
          refine ACalls.useE (poly16_new _ _ hR) [] rfl (by (conv => whnf); try rfl) (by (conv => whnf); try rfl) ?_
          conv => whnf
          refine ACalls.useE (place16_miss _ _ _ ?_ _ k0 ?_ hbX heX h0X) [1] rfl (by (conv => whnf); try rfl) (by (conv => whnf); try rfl) ?_
          · omega
          · omega
          conv => whnf
          refine ACalls.useE (ref_right_ok _ _ _ hR (by decide)) [] rfl (by (conv => whnf); try rfl) (by (conv => whnf); try rfl) ?_
          conv => whnf
          refine ACalls.useE (ref_fitsI _ _ ?_ ?_) [] rfl (by (conv => whnf); try rfl) (by (conv => whnf); try rfl) ?_
          · omega
          · omega
          conv => whnf
          rw [es]
          conv => whnf
          refine Bif.knT ?_ fun h1 => ?_
          · (simp [es, hF]; done)
          rw [h1]
          conv => whnf
          refine ACalls.useE (ref_place_miss (nn : Int) (tt : Int) _ ?_ k0 hk0 hbW heW h0I) [] rfl (by (conv => whnf); try rfl) (by (conv => whnf); try rfl) ?_
          · omega
          conv => whnf
          refine ACalls.useE (poly16_set _ _ _ _ ?_ hFS ?_) [1] rfl (by (conv => whnf); try rfl) (by (conv => whnf); try rfl) ?_
          · omega
          · omega
          conv => whnf
          refine ACalls.useE (period16 _ _ _ ?_ k1 ?_ hb1 he1) [1] rfl (by (conv => whnf); try rfl) (by (conv => whnf); try rfl) ?_
          · omega
          · omega
          conv => whnf
          rw [es]
          conv => whnf
          refine ⟨rfl, ?_⟩
          conv => whnf
          refine ⟨rfl, ?_⟩
          conv => whnf
          refine ⟨rfl, ?_⟩
          conv => whnf
          refine ACalls.useE (ref_periodI (nn : Int) (tt : Int) _ ?_ hFS k1 hk1 hb1S he1S) [] rfl (by (conv => whnf); try rfl) (by (conv => whnf); try rfl) ?_
          · omega
          conv => whnf
          refine Bif.knT ?_ fun h2 => ?_
          · (simp [es, hF]; done)
          rw [h2]
          conv => whnf
          refine ACalls.useE (awake01) [] rfl (by (conv => whnf); try rfl) (by (conv => whnf); try rfl) ?_
          conv => whnf
      · have hFB : 2 ^ (nn : Int).toNat ≤ s := Int.not_lt.1 hF
        have hq : itI nn tt k0 0 ≠ s := fun e => by have := itI_le (n := nn) (t := tt) (by omega) (s := 0) ⟨Int.le_refl _, hpI.2.1⟩ k0; omega
        have h0I := heI.resolve_left hq
        have heX : itX16 nn tt 0 k0 ≠ s := by rw [hx0]; exact hq
        have h0X : itX16 nn tt 0 k0 = 0 ∧ 0 < k0 := by rw [hx0]; exact h0I
        refine ACalls.code tabOk h5 Try.func5 Try.call5 ok5 ?_
        conv => whnf
        refine Bif.knF ?_ fun h0 => ?_
        · (simp; omega)
        rw [h0]
        conv => whnf
        refine ACalls.useE (poly16_new _ _ hR) [] rfl (by (conv => whnf); try rfl) (by (conv => whnf); try rfl) ?_
        conv => whnf
        refine ACalls.useE (place16_miss _ _ _ ?_ _ k0 ?_ hbX heX h0X) [1] rfl (by (conv => whnf); try rfl) (by (conv => whnf); try rfl) ?_
        · omega
        · omega
        conv => whnf
        refine ACalls.useE (ref_right_ok _ _ _ hR (by decide)) [] rfl (by (conv => whnf); try rfl) (by (conv => whnf); try rfl) ?_
        conv => whnf
        refine ACalls.useE (ref_fitsI _ _ ?_ ?_) [] rfl (by (conv => whnf); try rfl) (by (conv => whnf); try rfl) ?_
        · omega
        · omega
        conv => whnf
        rw [es]
        conv => whnf
        refine Bif.knF ?_ fun h1 => ?_
        · (simp [es, hF]; done)
        rw [h1]
        conv => whnf
        refine ACalls.useE (poly16_set_bad _ _ _ _ ?_ hFB ?_) [1] rfl (by (conv => whnf); try rfl) (by (conv => whnf); try rfl) ?_
        · omega
        · omega
        conv => whnf
        refine ACalls.useE (ref_fitsI _ _ ?_ ?_) [] rfl (by (conv => whnf); try rfl) (by (conv => whnf); try rfl) ?_
        · omega
        · omega
        conv => whnf
        rw [es]
        conv => whnf
        refine Bif.knT ?_ fun h2 => ?_
        · (simp [es, hF]; done)
        rw [h2]
        conv => whnf
        refine ACalls.useE (awake01) [] rfl (by (conv => whnf); try rfl) (by (conv => whnf); try rfl) ?_
        conv => whnf
    · refine ACalls.code tabOk h5 Try.func5 Try.call5 ok5 ?_
      conv => whnf
      refine Bif.knF ?_ fun h0 => ?_
      · (simp; omega)
      rw [h0]
      conv => whnf
      refine ACalls.useE (poly16_bad _ _ hR) [] rfl (by (conv => whnf); try rfl) (by (conv => whnf); try rfl) ?_
      conv => whnf
      refine ACalls.useE (poly16_place_nil _) [] rfl (by (conv => whnf); try rfl) (by (conv => whnf); try rfl) ?_
      conv => whnf
      refine ACalls.useE (ref_right_bad _ _ _ hR (by decide)) [] rfl (by (conv => whnf); try rfl) (by (conv => whnf); try rfl) ?_
      conv => whnf
      refine ACalls.useE (awake01) [] rfl (by (conv => whnf); try rfl) (by (conv => whnf); try rfl) ?_
      conv => whnf
  · refine ACalls.code tabOk h5 Try.func5 Try.call5 ok5 ?_
    conv => whnf
    refine Bif.knT ?_ fun h0 => ?_
    · (simp; omega)
    rw [h0]
    conv => whnf

/-! The four polys of the chips -/
def chk0 (n t : Nat) : Nat → Int → Bool
  | 0, s => s == 0
  | m + 1, s => s != 0 && chk0 n t m (nxI n t s)
theorem chk0_iff {n t : Nat} : ∀ {m : Nat} {s : Int}, chk0 n t m s = true → (∀ k, k < m → itI n t k s ≠ 0) ∧ itI n t m s = 0
  | 0, s, h => ⟨fun k hk => absurd hk (Nat.not_lt_zero _), by show s = 0; simpa [chk0] using h⟩
  | m + 1, s, h => by
    unfold chk0 at h
    rw [Bool.and_eq_true] at h
    obtain ⟨h1, h2⟩ := chk0_iff h.2
    refine ⟨fun k hk => ?_, by rw [itI_succ']; exact h2⟩
    cases k with
    | zero => exact bne_iff_ne.1 h.1
    | succ k => rw [itI_succ']; exact h1 k (by omega)
theorem chip {nn tt p : Nat} (h : 1 ≤ tt ∧ tt < nn) (hp : p + 2 = 2 ^ nn) (hc : chk0 nn tt p (nxI nn tt 0) = true) (ho : nxI nn tt (2 ^ nn - 1) = 2 ^ nn - 1) {b : Int} (hb : 0 ≤ b ∧ b < 2 ^ nn) (hne : b ≠ 2 ^ nn - 1) :
    (∀ k, k < p → itI nn tt (k + 1) b ≠ b) ∧ itI nn tt (p + 1) b = b := by
  obtain ⟨c1, c2⟩ := chk0_iff hc
  have e : ((2 ^ nn : Nat) : Int) = 2 ^ nn := by simp
  have z : (0 : Int) ≤ 0 ∧ (0 : Int) < 2 ^ nn := ⟨Int.le_refl _, Int.pow_pos (by decide)⟩
  have d1 : ∀ k, k < p → itI nn tt (k + 1) 0 ≠ 0 := fun k hk => by rw [itI_succ']; exact c1 k hk
  have d2 : itI nn tt (p + 1) 0 = 0 := by rw [itI_succ']; exact c2
  have hle := fun k => itI_le (n := nn) (t := tt) (by omega) z k
  -- b is one of the states that 0 goes through
  have hin : ∃ j, j < p + 1 ∧ itI nn tt j 0 = b := by
    by_cases hx : ∃ j, j < p + 1 ∧ itI nn tt j 0 = b
    · exact hx
    · exfalso
      have hones : ∀ k, itI nn tt k 0 ≠ 2 ^ nn - 1 := fun k => by
        induction k with
        | zero => show (0 : Int) ≠ _; omega
        | succ k ih =>
          intro he
          refine ih (nxI_inj h (hle k) ⟨by omega, by omega⟩ ?_)
          rw [ho]; exact he
      have hnd : (b.toNat :: (List.range (p + 1)).map fun i => (itI nn tt i 0).toNat).Nodup := by
        rw [List.nodup_cons]
        refine ⟨fun hm => ?_, ?_⟩
        · obtain ⟨j, hj, he⟩ := List.mem_map.1 hm
          have := hle j
          exact hx ⟨j, List.mem_range.1 hj, by omega⟩
        · unfold List.Nodup
          rw [List.pairwise_map, List.pairwise_iff_getElem]
          intro i j hi hj hij he
          simp only [List.getElem_range] at he
          simp only [List.length_range] at hi hj
          have h1 := hle i
          have h2 := hle j
          have he' : itI nn tt i 0 = itI nn tt j 0 := by omega
          have e2 : j = (j - i) + i := by omega
          rw [e2, itI_add] at he'
          have := itI_inj h z (hle _) i he'
          obtain ⟨m, hm⟩ : ∃ m, j - i = m + 1 := ⟨j - i - 1, by omega⟩
          rw [hm] at this
          exact d1 m (by omega) this.symm
      have := nodup_le (N := 2 ^ nn - 1) hnd fun x hx2 => by
        rcases List.mem_cons.1 hx2 with rfl | hm
        · omega
        · obtain ⟨j, _, rfl⟩ := List.mem_map.1 hm
          have h1 := hle j
          have h2 := hones j
          omega
      simp at this
      omega
  obtain ⟨j, hj, rfl⟩ := hin
  refine ⟨fun k hk he => ?_, ?_⟩
  · rw [← itI_add, Nat.add_comm, itI_add] at he
    exact d1 k hk (itI_inj h (hle _) z j he)
  · rw [← itI_add, Nat.add_comm, itI_add, d2]
theorem chip_ones {nn tt : Nat} (h : 1 ≤ tt ∧ tt < nn ∧ nn ≤ 16) (ho : nxI nn tt (2 ^ nn - 1) = 2 ^ nn - 1) : itX16 nn tt (2 ^ nn - 1) 1 = 2 ^ nn - 1 := by
  have hp := pow16I h.2.2
  rw [itX16_eq h (by omega)]; exact ho
theorem chipX {nn tt p : Nat} (h : 1 ≤ tt ∧ tt < nn ∧ nn ≤ 16) (hp : p + 2 = 2 ^ nn) (hc : chk0 nn tt p (nxI nn tt 0) = true) (ho : nxI nn tt (2 ^ nn - 1) = 2 ^ nn - 1) {b : Int} (hb : 0 ≤ b ∧ b < 2 ^ nn) (hne : b ≠ 2 ^ nn - 1) :
    (∀ k, k < p → itX16 nn tt b (k + 1) ≠ b) ∧ itX16 nn tt b (p + 1) = b := by
  obtain ⟨h1, h2⟩ := chip (nn := nn) (tt := tt) (p := p) (by omega) hp hc ho hb hne
  exact ⟨fun k hk => by rw [itX16_eq h hb]; exact h1 k hk, by rw [itX16_eq h hb]; exact h2⟩
end Go.Proofs
