/-
  Walks through the functions of the program, by contract.
-/
import Derived.Test.YtlodkcpaoljdlaaLawrF
set_option linter.all false
set_option linter.unusedVariables false
set_option linter.unusedSimpArgs false
set_option linter.unnecessarySimpa false
namespace Go.Proofs
open Go.Aw
set_option maxRecDepth 100000
set_option maxHeartbeats 4000000
theorem ref_row_neg (n t s N : Int) (hN : N ≤ 0) : ACalls Try.prog 21 [.int .i64 n, .int .i64 t, .int .i64 s, .int .i64 N] [] fun v H => v = .slice none 0 0 ∧ H = [] := by
  refine ACalls.code tabOk h21 Try.func21 Try.call21 ok21 ?_
  conv => whnf
  refine ALoop.run 1 ?_
  conv => whnf
  refine Bif.knF ?_ fun h0 => ?_
  · (simp; omega)
  rw [h0]
  conv => whnf
  exact ⟨rfl, rfl⟩
theorem bits16I (b n t N : Int) (hn : 1 ≤ n ∧ n ≤ 16 ∧ 0 ≤ t) (hN : 1 ≤ N ∧ N ≤ 1048576) : ACalls Try.prog 24 [.pointer (some ⟨0, 0, none⟩), .int .i64 N] [.cells [.int .u16 b, .int .i64 n, .int .i64 t] 81] fun v H => v = .slice (some ⟨1, 0, none⟩) N.toNat N.toNat ∧ H = [.cells [.int .u16 b, .int .i64 n, .int .i64 t] 81, .cells (rowI .u8 (fun j => lo16 (itX16 n t b j)) N.toNat N.toNat) 5] := by
  have := bits16 b n t hn N.toNat (by omega)
  rw [Int.toNat_of_nonneg (a := N) (by omega)] at this
  exact this
theorem keep_row {H : List Blk} {b i n : Nat} {e : TypeId} {f : Nat → Int} {k : Prop} (hb : H[b]? = some (.cells (rowI .u8 f i n) e)) (hn : i ≤ n) (hk : k) : (∃ l : List Int, BytesAt H b 0 l ∧ Value.agg (l.map fun n => Value.int .u8 n).toArray = Value.agg ((((List.range i).map f).map fun n => Value.int .u8 n)).toArray) ∧ k := by
  refine ⟨⟨_, ⟨_, _, hb, fun j x hj => ?_⟩, rfl⟩, hk⟩
  rw [List.getElem?_map] at hj
  cases hr : (List.range i)[j]? with
  | none => rw [hr] at hj; cases hj
  | some m =>
    rw [hr] at hj; cases hj
    obtain ⟨h1, h2⟩ := List.getElem?_eq_some_iff.1 hr
    simp at h1 h2
    subst h2
    rw [Nat.zero_add, rowI_get h1 hn]
theorem strEq_self (a : ByteArray) : strEq a a = true := strEq_of rfl
theorem walk_PolyBits (n t s k : Int) (wn : (Lit.int .i64 n).wf = true) (wt : (Lit.int .i64 t).wf = true) (ws : (Lit.int .u16 s).wf = true) (wk : (Lit.int .i64 k).wf = true) :
    ACalls Try.prog 4 [.agg #[.int .i64 n, .int .i64 t, .int .u16 s, .int .i64 k]] [] fun v _ => v = .bool true := by
  have hs := wf_u16 ws
  have es : IntKind.i64.wrap s = s := wrap64 (by omega) (by omega)
  by_cases h600 : k ≤ 600
  · by_cases hR : 2 ≤ n ∧ n ≤ 16 ∧ 1 ≤ t ∧ t < n
    · obtain ⟨nn, rfl⟩ : ∃ nn : Nat, n = nn := ⟨n.toNat, by omega⟩
      obtain ⟨tt, rfl⟩ : ∃ tt : Nat, t = tt := ⟨t.toNat, by omega⟩
      by_cases hF : s < 2 ^ nn
      · have hFS : 0 ≤ s ∧ s < 2 ^ (nn : Int).toNat := ⟨hs.1, hF⟩
        by_cases hk : k ≤ 0
        · have hN0 : k ≤ 0 ∨ k > 1048576 := .inl hk
          refine ACalls.code tabOk h4 Try.func4 Try.call4 ok4 ?_
          conv => whnf
          refine Bif.of (fun h0 => ?_) fun h0 => ?_
          · rw [h0]
            conv => whnf
          · rw [h0]
            conv => whnf
            refine ACalls.useE (poly16_new _ _ hR) [] rfl (by (conv => whnf); try rfl) (by (conv => whnf); try rfl) ?_
            conv => whnf
            refine ACalls.useE (ref_right_ok _ _ _ hR (by decide)) [] rfl (by (conv => whnf); try rfl) (by (conv => whnf); try rfl) ?_
            conv => whnf
            refine ACalls.useE (ref_fitsI _ _ ?_ ?_) [] rfl (by (conv => whnf); try rfl) (by (conv => whnf); try rfl) ?_
            · omega
            · omega
            conv => whnf
            rw [es]
            conv => whnf
            refine Bif.knF ?_ fun h1 => ?_
            · (simp [es, hF]; done)
            rw [h1]
            conv => whnf
            refine ACalls.useE (poly16_set _ _ _ _ ?_ hFS ?_) [1] rfl (by (conv => whnf); try rfl) (by (conv => whnf); try rfl) ?_
            · omega
            · omega
            conv => whnf
            refine ACalls.useE (poly16_bits_no _ _ _ _ hN0) [1] rfl (by (conv => whnf); try rfl) (by (conv => whnf); try rfl) ?_
            conv => whnf
            rw [es]
            conv => whnf
            refine ⟨rfl, ?_⟩
            conv => whnf
            refine ⟨rfl, ?_⟩
            conv => whnf
            refine ⟨rfl, ?_⟩
            conv => whnf
            refine ⟨rfl, ?_⟩
            conv => whnf
            intro z hz
            conv => whnf
            refine ACalls.useE (ref_row_neg _ _ _ _ hk) [] rfl (by (conv => whnf); try rfl) (by (conv => whnf); try rfl) ?_
            conv => whnf
            intro z hz
            conv => whnf
            refine Bif.knT ?_ fun h2 => ?_
            · (exact strEq_of (by simp [*]))
            rw [h2]
            conv => whnf
            refine ACalls.useE (poly16_state _ _ _) [1] rfl (by (conv => whnf); try rfl) (by (conv => whnf); try rfl) ?_
            conv => whnf
            refine ⟨rfl, ?_⟩
            conv => whnf
            refine Bif.knT ?_ fun h3 => ?_
            · (simp [es, hF]; done)
            rw [h3]
            conv => whnf
            refine ACalls.useE (awake01) [] rfl (by (conv => whnf); try rfl) (by (conv => whnf); try rfl) ?_
            conv => whnf
            refine ⟨rfl, ?_⟩
            conv => whnf
        · obtain ⟨kk, rfl⟩ : ∃ kk : Nat, k = kk := ⟨k.toNat, by omega⟩
          have hfun : (fun j => lo16 (itX16 nn tt s j)) = rwB nn tt s := funext fun j => by rw [lo16_eq, itX16_eq (n := nn) (t := tt) (by omega) hFS]; exact (rwB_it (by omega) j s hFS).symm
          refine ACalls.code tabOk h4 Try.func4 Try.call4 ok4 ?_
          conv => whnf
          refine Bif.knF ?_ fun h0 => ?_
          · (simp; omega)
          rw [h0]
          conv => whnf
          refine ACalls.useE (poly16_new _ _ hR) [] rfl (by (conv => whnf); try rfl) (by (conv => whnf); try rfl) ?_
          conv => whnf
          refine ACalls.useE (ref_right_ok _ _ _ hR (by decide)) [] rfl (by (conv => whnf); try rfl) (by (conv => whnf); try rfl) ?_
          conv => whnf
          refine ACalls.useE (ref_fitsI _ _ ?_ ?_) [] rfl (by (conv => whnf); try rfl) (by (conv => whnf); try rfl) ?_
          · omega
          · omega
          conv => whnf
          rw [es]
          conv => whnf
          rw [Int.toNat_natCast]
          conv => whnf
          refine Bif.knF ?_ fun h1 => ?_
          · (simp [es, hF]; done)
          rw [h1]
          conv => whnf
          refine ACalls.useE (poly16_set _ _ _ _ ?_ hFS ?_) [1] rfl (by (conv => whnf); try rfl) (by (conv => whnf); try rfl) ?_
          · omega
          · omega
          conv => whnf
          refine ACalls.useE (bits16I _ _ _ _ ?_ ?_) [1] rfl (by (conv => whnf); try rfl) (by (conv => whnf); try rfl) ?_
          · omega
          · omega
          conv => whnf
          rw [es]
          conv => whnf
          rw [Int.toNat_natCast]
          conv => whnf
          rw [hfun]
          conv => whnf
          refine renL_row ?_
          conv => whnf
          refine ⟨rfl, ?_⟩
          conv => whnf
          refine ⟨rfl, ?_⟩
          conv => whnf
          refine ⟨rfl, ?_⟩
          conv => whnf
          refine ⟨rfl, ?_⟩
          conv => whnf
          refine bytes_row (i := kk) rfl (by first | exact Nat.le_refl _ | assumption | omega) ?_
          conv => whnf
          refine ACalls.useX (ref_rowI _ _ _ _ ?_ ?_ ?_) [] rfl (by (conv => whnf); try rfl) (by (conv => whnf); try rfl) ?_
          · omega
          · omega
          · omega
          intro nx2 hx2
          conv => whnf
          rw [Int.toNat_natCast]
          conv => whnf
          rw [Int.toNat_natCast]
          conv => whnf
          rw [Int.toNat_natCast]
          conv => whnf
          refine renL_row ?_
          conv => whnf
          refine keep_row (i := kk) (n := kk) rfl (Nat.le_refl _) ?_
          conv => whnf
          refine bytes_row (i := kk) rfl (by first | exact Nat.le_refl _ | assumption | omega) ?_
          conv => whnf
          rw [strEq_self]
          conv => whnf
          refine ACalls.useE (poly16_state _ _ _) [1] rfl (by (conv => whnf); try rfl) (by (conv => whnf); try rfl) ?_
          conv => whnf
          refine ⟨rfl, ?_⟩
          conv => whnf
          refine keep_row (i := kk) rfl (by omega) ?_
          conv => whnf
          refine keep_row (i := kk) (n := kk) rfl (Nat.le_refl _) ?_
          conv => whnf
          refine Bif.knT ?_ fun h3 => ?_
          · (simp [es, hF]; done)
          rw [h3]
          conv => whnf
          refine ACalls.useE (awake01) [] rfl (by (conv => whnf); try rfl) (by (conv => whnf); try rfl) ?_
          conv => whnf
          refine ⟨rfl, ?_⟩
          conv => whnf
          refine keep_row (i := kk) rfl (by omega) ?_
          conv => whnf
          refine keep_row (i := kk) (n := kk) rfl (Nat.le_refl _) ?_
          conv => whnf
      · have hFB : 2 ^ (nn : Int).toNat ≤ s := Int.not_lt.1 hF
        refine ACalls.code tabOk h4 Try.func4 Try.call4 ok4 ?_
        conv => whnf
        refine Bif.knF ?_ fun h0 => ?_
        · (simp; omega)
        rw [h0]
        conv => whnf
        refine ACalls.useE (poly16_new _ _ hR) [] rfl (by (conv => whnf); try rfl) (by (conv => whnf); try rfl) ?_
        conv => whnf
        refine ACalls.useE (ref_right_ok _ _ _ hR (by decide)) [] rfl (by (conv => whnf); try rfl) (by (conv => whnf); try rfl) ?_
        conv => whnf
        refine ACalls.useE (ref_fitsI _ _ ?_ ?_) [] rfl (by (conv => whnf); try rfl) (by (conv => whnf); try rfl) ?_
        · omega
        · omega
        conv => whnf
        rw [es]
        conv => whnf
        refine Bif.knT ?_ fun h1 => ?_
        · (simp [es, hF]; done)
        rw [h1]
        conv => whnf
        refine ACalls.useE (poly16_set_bad _ _ _ _ ?_ hFB ?_) [1] rfl (by (conv => whnf); try rfl) (by (conv => whnf); try rfl) ?_
        · omega
        · omega
        conv => whnf
        refine ACalls.useE (awake01) [] rfl (by (conv => whnf); try rfl) (by (conv => whnf); try rfl) ?_
        conv => whnf
    · refine ACalls.code tabOk h4 Try.func4 Try.call4 ok4 ?_
      conv => whnf
      refine Bif.knF ?_ fun h0 => ?_
      · (simp; omega)
      rw [h0]
      conv => whnf
      refine ACalls.useE (poly16_bad _ _ hR) [] rfl (by (conv => whnf); try rfl) (by (conv => whnf); try rfl) ?_
      conv => whnf
      refine ACalls.useE (ref_right_bad _ _ _ hR (by decide)) [] rfl (by (conv => whnf); try rfl) (by (conv => whnf); try rfl) ?_
      conv => whnf
      refine ACalls.useE (poly16_bits_nil _) [] rfl (by (conv => whnf); try rfl) (by (conv => whnf); try rfl) ?_
      conv => whnf
      refine ACalls.useE (poly16_period_nil) [] rfl (by (conv => whnf); try rfl) (by (conv => whnf); try rfl) ?_
      conv => whnf
      refine ACalls.useE (awake01) [] rfl (by (conv => whnf); try rfl) (by (conv => whnf); try rfl) ?_
      conv => whnf
  · refine ACalls.code tabOk h4 Try.func4 Try.call4 ok4 ?_
    conv => whnf
    refine Bif.knT ?_ fun h0 => ?_
    · (simp; omega)
    rw [h0]
    conv => whnf
end Go.Proofs
