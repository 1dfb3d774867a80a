/-
  A poly's next state and its row of bits, in plain numbers.
-/
import Derived.Test.YtlodkcpaoljdlaaRefbF
set_option linter.all false
set_option linter.unusedVariables false
set_option linter.unusedSimpArgs false
set_option linter.unnecessarySimpa false
namespace Go.Proofs
open Go.Aw

/-- The state behind another one. -/
def nxI (n t : Nat) (s : Int) : Int := s / 2 + (if s % 2 = (s / 2 ^ t) % 2 then 2 ^ (n - 1) else 0)

theorem nxI_le {n t : Nat} {s : Int} (hn : 1 ≤ n) (hs : 0 ≤ s ∧ s < 2 ^ n) : 0 ≤ nxI n t s ∧ nxI n t s < 2 ^ n := by
  have e : (2 : Int) ^ n = 2 ^ (n - 1) * 2 := by rw [← Int.pow_succ]; congr 1; omega
  have hp : (0 : Int) < 2 ^ (n - 1) := Int.pow_pos (by decide)
  unfold nxI
  split <;> omega

theorem bits_nat {op : BinOp} {k : IntKind} (hk : k.signed = false) {a b : Nat} (ha : a < 2 ^ k.bits) (hb : b < 2 ^ k.bits) :
    bits .or k (a : Int) (b : Int) = ((a ||| b : Nat) : Int) ∧ bits .xor k (a : Int) (b : Int) = ((a ^^^ b : Nat) : Int) ∧ bits .and k (a : Int) (b : Int) = ((a &&& b : Nat) : Int) := by
  have h1 : ∀ x : Nat, x < 2 ^ k.bits → (BitVec.ofInt k.bits (x : Int)).toNat = x := fun x hx => by
    rw [BitVec.toNat_ofInt]
    rw [Int.emod_eq_of_lt (Int.natCast_nonneg _) (by exact_mod_cast hx)]
    rfl
  have hw : ∀ x : Nat, x < 2 ^ k.bits → k.wrap (x : Int) = (x : Int) := fun x hx => by
    unfold IntKind.wrap
    simp only [hk, Bool.false_and, Bool.false_eq_true, if_false]
    exact Int.emod_eq_of_lt (Int.natCast_nonneg _) (by exact_mod_cast hx)
  refine ⟨?_, ?_, ?_⟩
  · show k.wrap ((BitVec.ofInt k.bits (a : Int) ||| BitVec.ofInt k.bits (b : Int)).toNat : Int) = _
    rw [BitVec.toNat_or, h1 a ha, h1 b hb, hw _ (Nat.or_lt_two_pow ha hb)]
  · show k.wrap ((BitVec.ofInt k.bits (a : Int) ^^^ BitVec.ofInt k.bits (b : Int)).toNat : Int) = _
    rw [BitVec.toNat_xor, h1 a ha, h1 b hb, hw _ (Nat.xor_lt_two_pow ha hb)]
  · show k.wrap ((BitVec.ofInt k.bits (a : Int) &&& BitVec.ofInt k.bits (b : Int)).toNat : Int) = _
    rw [BitVec.toNat_and, h1 a ha, h1 b hb, hw _ (Nat.and_lt_two_pow a hb)]

theorem fresh_nat (a b : Nat) : ((a ^^^ b) ^^^ 1) &&& 1 = if a % 2 = b % 2 then 1 else 0 := by
  have hx : ∀ x y : Nat, (x ^^^ y) % 2 = (x % 2) ^^^ (y % 2) := fun x y => by have := Nat.xor_mod_two_pow (a := x) (b := y) (n := 1); simpa using this
  rw [Nat.and_one_is_mod, hx, hx]
  have h1 : a % 2 = 0 ∨ a % 2 = 1 := by omega
  have h2 : b % 2 = 0 ∨ b % 2 = 1 := by omega
  rcases h1 with h1 | h1 <;> rcases h2 with h2 | h2 <;> rw [h1, h2] <;> rfl

/-- The next state by shifts, in plain numbers. -/
theorem nx_nat {k : IntKind} (hk : k.signed = false) {n t s : Nat} (h : 1 ≤ n ∧ n ≤ k.bits ∧ k.bits ≤ 60 ∧ t < n) (hs : s < 2 ^ n) :
    bits .or k ((s : Int).fdiv (2 ^ min (1 : Int).toNat k.bits)) (k.wrap (bits .and k (bits .xor k (bits .xor k (s : Int) ((s : Int).fdiv (2 ^ min (t : Int).toNat k.bits))) 1) 1 * 2 ^ min (IntKind.i64.wrap ((n : Int) - 1)).toNat k.bits)) = nxI n t s := by
  have hs2 : s < 2 ^ k.bits := Nat.lt_of_lt_of_le hs (Nat.pow_le_pow_right (by decide) h.2.1)
  have h1b : 1 < 2 ^ k.bits := Nat.one_lt_two_pow (by omega)
  have fd : ∀ j : Nat, (s : Int).fdiv (2 ^ j) = ((s / 2 ^ j : Nat) : Int) := fun j => by
    rw [Int.fdiv_eq_ediv_of_nonneg _ (Int.le_of_lt (Int.pow_pos (by decide)))]
    simp
  have m1 : min (1 : Int).toNat k.bits = 1 := by show min 1 k.bits = 1; omega
  have mt : min (t : Int).toNat k.bits = t := by rw [Int.toNat_natCast]; omega
  have mn : min (IntKind.i64.wrap ((n : Int) - 1)).toNat k.bits = n - 1 := by rw [wrap64 (by omega) (by omega)]; omega
  have hd : s / 2 ^ t < 2 ^ k.bits := Nat.lt_of_le_of_lt (Nat.div_le_self _ _) hs2
  have hx : s ^^^ s / 2 ^ t < 2 ^ k.bits := Nat.xor_lt_two_pow hs2 hd
  have hxx : (s ^^^ s / 2 ^ t) ^^^ 1 < 2 ^ k.bits := Nat.xor_lt_two_pow hx h1b
  rw [m1, mt, mn, fd, fd]
  have e1 := (bits_nat (op := .xor) hk hs2 hd).2.1
  have e2 := (bits_nat (op := .xor) hk hx h1b).2.1
  have e3 := (bits_nat (op := .xor) hk hxx h1b).2.2
  have c1 : ((1 : Nat) : Int) = 1 := rfl
  rw [c1] at e2 e3
  rw [e1, e2, e3, fresh_nat]
  have hlo : s / 2 ^ 1 < 2 ^ (n - 1) := by
    rw [Nat.pow_one]
    have : 2 ^ n = 2 ^ (n - 1) * 2 := by rw [← Nat.pow_succ]; congr 1; omega
    omega
  have hpn : 2 ^ (n - 1) ≤ 2 ^ (k.bits - 1) := Nat.pow_le_pow_right (by decide) (by omega)
  have hpk : 2 ^ (k.bits - 1) * 2 = 2 ^ k.bits := by rw [← Nat.pow_succ]; congr 1; omega
  have hpos : 0 < 2 ^ (n - 1) := Nat.two_pow_pos _
  have hw : ∀ x : Nat, x < 2 ^ k.bits → k.wrap (x : Int) = (x : Int) := fun x hx => by
    unfold IntKind.wrap
    simp only [hk, Bool.false_and, Bool.false_eq_true, if_false]
    exact Int.emod_eq_of_lt (Int.natCast_nonneg _) (by exact_mod_cast hx)
  have q : (s : Int) % 2 = ((s : Int) / 2 ^ t) % 2 ↔ s % 2 = s / 2 ^ t % 2 := by
    have : ((s : Int) / 2 ^ t) % 2 = ((s / 2 ^ t % 2 : Nat) : Int) := by simp
    rw [this]; omega
  have d1 : (s : Int) / 2 = ((s / 2 ^ 1 : Nat) : Int) := by simp
  unfold nxI
  rw [d1]
  by_cases hc : s % 2 = s / 2 ^ t % 2
  · rw [if_pos hc, if_pos (q.2 hc)]
    have e4 : ((1 : Nat) : Int) * 2 ^ (n - 1) = ((2 ^ (n - 1) : Nat) : Int) := by simp
    rw [e4, hw _ (by omega), (bits_nat (op := .or) hk (by omega) (by omega)).1, Nat.or_comm]
    have := Nat.two_pow_add_eq_or_of_lt hlo 1
    rw [Nat.mul_one] at this
    rw [← this]
    have e5 : ((2 ^ (n - 1) : Nat) : Int) = (2 : Int) ^ (n - 1) := by simp
    omega
  · rw [if_neg hc, if_neg fun h => hc (q.1 h)]
    have e4 : ((0 : Nat) : Int) * 2 ^ (n - 1) = ((0 : Nat) : Int) := by simp
    rw [e4, hw 0 (by omega), (bits_nat (op := .or) hk (by omega) (by omega)).1, Nat.or_zero]
    simp

theorem nx8_eq {n t : Nat} {s : Int} (h : 1 ≤ n ∧ n ≤ 8 ∧ t < n) (hs : 0 ≤ s ∧ s < 2 ^ n) : nx8 n t s = nxI n t s := by
  obtain ⟨j, rfl⟩ : ∃ j : Nat, s = j := ⟨s.toNat, by omega⟩
  unfold nx8
  exact nx_nat (k := .u8) rfl ⟨h.1, h.2.1, by decide, h.2.2⟩ (by exact_mod_cast hs.2)
theorem nx16_eq {n t : Nat} {s : Int} (h : 1 ≤ n ∧ n ≤ 16 ∧ t < n) (hs : 0 ≤ s ∧ s < 2 ^ n) : nx16 n t s = nxI n t s := by
  obtain ⟨j, rfl⟩ : ∃ j : Nat, s = j := ⟨s.toNat, by omega⟩
  unfold nx16
  exact nx_nat (k := .u16) rfl ⟨h.1, h.2.1, by decide, h.2.2⟩ (by exact_mod_cast hs.2)
theorem lo8_eq {s : Int} : lo8 s = s % 2 := and1u s
theorem lo16_eq {s : Int} : lo16 s = s % 2 := by
  have : bits .and .u16 s 1 = s % 2 := and_mask .u16 s 1 (by decide)
  unfold lo16
  rw [this, wrap8 (by omega) (by omega)]

theorem div_pow_succ (s : Int) (j : Nat) : s / 2 ^ (j + 1) = s / 2 / 2 ^ j := by
  rw [Int.pow_succ, Int.mul_comm, Int.ediv_ediv_of_nonneg (by decide)]

/-- One step on: the row without its first bit. -/
theorem rwB_shift {n t : Nat} {s : Int} (h : 1 ≤ t ∧ t < n) (hs : 0 ≤ s ∧ s < 2 ^ n) (i : Nat) : rwB n t s (i + 1) = rwB n t (nxI n t s) i := by
  induction i using Nat.strongRecOn with
  | _ i ih =>
    have e : (2 : Int) ^ n = 2 ^ (n - 1) * 2 := by rw [← Int.pow_succ]; congr 1; omega
    have hp : (0 : Int) < 2 ^ (n - 1) := Int.pow_pos (by decide)
    by_cases h1 : i + 1 < n
    · rw [rwB_lo h1, rwB_lo (by omega), div_pow_succ]
      unfold nxI
      have e2 : (2 : Int) ^ (n - 1) = 2 ^ i * (2 * 2 ^ (n - 1 - i - 1)) := by
        rw [← Int.mul_assoc, ← Int.pow_succ, ← Int.pow_add]; congr 1; omega
      have hpi : (2 : Int) ^ i ≠ 0 := Int.ne_of_gt (Int.pow_pos (by decide))
      split
      · rw [e2, Int.add_mul_ediv_left _ _ hpi]; omega
      · rw [Int.add_zero]
    · by_cases h2 : i + 1 = n
      · obtain rfl : n = i + 1 := by omega
        rw [rwB_hi (Nat.le_refl _) h.2, Nat.sub_self, Nat.zero_add, rwB_lo (by omega), rwB_lo (by omega), rwB_lo (by omega)]
        unfold nxI
        simp only [Nat.add_sub_cancel] at e hp ⊢
        rw [Int.pow_zero, Int.ediv_one]
        have hlt : 0 ≤ s / 2 ∧ s / 2 < 2 ^ i := by omega
        split
        · have : s / 2 + 2 ^ i = s / 2 + 2 ^ i * 1 := by rw [Int.mul_one]
          rw [this, Int.add_mul_ediv_left _ _ (Int.ne_of_gt hp), Int.ediv_eq_zero_of_lt hlt.1 hlt.2]; rfl
        · rw [Int.add_zero, Int.ediv_eq_zero_of_lt hlt.1 hlt.2]; rfl
      · rw [rwB_hi (i := i + 1) (by omega) h.2, rwB_hi (s := nxI n t s) (i := i) (by omega) h.2]
        have a1 := ih (i - n) (by omega)
        have a2 := ih (i - n + t) (by omega)
        rw [show i + 1 - n = i - n + 1 by omega, show i - n + 1 + t = i - n + t + 1 by omega, a1, a2]

theorem stS_val {n t : Nat} {s : Int} (hs : 0 ≤ s ∧ s < 2 ^ n) : ∀ j : Nat, j ≤ n → stS (rwB n t s) 0 j = s % 2 ^ j
  | 0, _ => by rw [stS_zero, Int.pow_zero, Int.emod_one]
  | j + 1, hj => by
    rw [stS_succ, stS_val hs j (by omega), Nat.zero_add, rwB_lo (by omega), Int.pow_succ]
    have hp : (0 : Int) < 2 ^ j := Int.pow_pos (by decide)
    rw [Int.emod_def s (2 ^ j * 2), ← Int.ediv_ediv_of_nonneg (Int.le_of_lt hp), Int.emod_def s (2 ^ j), Int.mul_assoc]
    generalize s / 2 ^ j = q
    have e : q = 2 * (q / 2) + q % 2 := by omega
    have e2 : 2 ^ j * q = 2 ^ j * (2 * (q / 2)) + q % 2 * 2 ^ j := by rw [Int.mul_comm (q % 2), ← Int.mul_add, ← e]
    omega
theorem stS_shift {n t : Nat} {s : Int} (h : 1 ≤ t ∧ t < n) (hs : 0 ≤ s ∧ s < 2 ^ n) (k : Nat) : ∀ j : Nat, stS (rwB n t s) (k + 1) j = stS (rwB n t (nxI n t s)) k j
  | 0 => by rw [stS_zero, stS_zero]
  | j + 1 => by
    rw [stS_succ, stS_succ, stS_shift h hs k j, show k + 1 + j = k + j + 1 by omega, rwB_shift h hs]
def itI (n t : Nat) : Nat → Int → Int
  | 0, s => s
  | k + 1, s => nxI n t (itI n t k s)
theorem itI_le {n t : Nat} {s : Int} (hn : 1 ≤ n) (hs : 0 ≤ s ∧ s < 2 ^ n) : ∀ k : Nat, 0 ≤ itI n t k s ∧ itI n t k s < 2 ^ n
  | 0 => hs
  | k + 1 => nxI_le hn (itI_le hn hs k)
theorem itI_succ' (n t : Nat) (s : Int) : ∀ k : Nat, itI n t (k + 1) s = itI n t k (nxI n t s)
  | 0 => rfl
  | k + 1 => by show nxI n t (itI n t (k + 1) s) = _; rw [itI_succ' n t s k]; rfl
/-- The states that a row tells are those that the poly goes through. -/
theorem stS_it {n t : Nat} (h : 1 ≤ t ∧ t < n) : ∀ (k : Nat) (s : Int), (0 ≤ s ∧ s < 2 ^ n) → stS (rwB n t s) k n = itI n t k s
  | 0, s, hs => by rw [stS_val hs n (Nat.le_refl _), Int.emod_eq_of_lt hs.1 hs.2]; rfl
  | k + 1, s, hs => by rw [stS_shift h hs, stS_it h k _ (nxI_le (by omega) hs), itI_succ']
/-- The bit that falls out behind k steps. -/
theorem rwB_it {n t : Nat} (h : 1 ≤ t ∧ t < n) : ∀ (k : Nat) (s : Int), (0 ≤ s ∧ s < 2 ^ n) → rwB n t s k = itI n t k s % 2
  | 0, s, hs => by rw [rwB_lo (by omega), Int.pow_zero, Int.ediv_one]; rfl
  | k + 1, s, hs => by rw [rwB_shift h hs, rwB_it h k _ (nxI_le (by omega) hs), itI_succ']

theorem nxI_inj {n t : Nat} (h : 1 ≤ t ∧ t < n) {a b : Int} (ha : 0 ≤ a ∧ a < 2 ^ n) (hb : 0 ≤ b ∧ b < 2 ^ n) (he : nxI n t a = nxI n t b) : a = b := by
  have e : (2 : Int) ^ n = 2 ^ (n - 1) * 2 := by rw [← Int.pow_succ]; congr 1; omega
  have hp : (0 : Int) < 2 ^ (n - 1) := Int.pow_pos (by decide)
  obtain ⟨m, rfl⟩ : ∃ m, t = m + 1 := ⟨t - 1, by omega⟩
  unfold nxI at he
  rw [div_pow_succ, div_pow_succ] at he
  have hd : a / 2 = b / 2 ∧ ((a % 2 = (a / 2 / 2 ^ m) % 2) ↔ (b % 2 = (b / 2 / 2 ^ m) % 2)) := by
    split at he <;> split at he <;> rename_i h1 h2
    · exact ⟨by omega, by simp [h1, h2]⟩
    · exfalso; omega
    · exfalso; omega
    · exact ⟨by omega, by simp [h1, h2]⟩
  obtain ⟨h1, h2⟩ := hd
  rw [h1] at h2
  have hx : b / 2 / 2 ^ m % 2 = 0 ∨ b / 2 / 2 ^ m % 2 = 1 := by omega
  have : a % 2 = b % 2 := by rcases hx with hx | hx <;> rw [hx] at h2 <;> omega
  omega

theorem nodup_le {N : Nat} : ∀ {l : List Nat}, l.Nodup → (∀ x ∈ l, x < N) → l.length ≤ N := by
  induction N with
  | zero =>
    intro l _ h
    cases l with
    | nil => simp
    | cons a l => exact absurd (h a (List.mem_cons_self ..)) (Nat.not_lt_zero _)
  | succ N ih =>
    intro l hn h
    by_cases hm : N ∈ l
    · have h1 := ih (hn.erase N) fun x hx => by
        have h2 := h x (List.mem_of_mem_erase hx)
        have h3 : x ≠ N := fun e => by subst e; exact hn.not_mem_erase hx
        omega
      rw [List.length_erase_of_mem hm] at h1
      omega
    · have := ih hn fun x hx => by
        have h2 := h x hx
        have h3 : x ≠ N := fun e => hm (e ▸ hx)
        omega
      omega

theorem itI_inj {n t : Nat} (h : 1 ≤ t ∧ t < n) {a b : Int} (ha : 0 ≤ a ∧ a < 2 ^ n) (hb : 0 ≤ b ∧ b < 2 ^ n) : ∀ k : Nat, itI n t k a = itI n t k b → a = b
  | 0, he => he
  | k + 1, he => itI_inj h ha hb k (nxI_inj h (itI_le (by omega) ha k) (itI_le (by omega) hb k) he)
theorem itI_add (n t : Nat) (s : Int) (a : Nat) : ∀ b : Nat, itI n t (a + b) s = itI n t b (itI n t a s)
  | 0 => rfl
  | b + 1 => by show nxI n t (itI n t (a + b) s) = _; rw [itI_add n t s a b]; rfl
/-- Every state comes again. -/
theorem itI_back {n t : Nat} (h : 1 ≤ t ∧ t < n) {s : Int} (hs : 0 ≤ s ∧ s < 2 ^ n) : ∃ p, 1 ≤ p ∧ p ≤ 2 ^ n ∧ itI n t p s = s := by
  have hc : ∃ i j, i < j ∧ j ≤ 2 ^ n ∧ itI n t i s = itI n t j s := by
    by_cases hx : ∃ i j, i < j ∧ j ≤ 2 ^ n ∧ itI n t i s = itI n t j s
    · exact hx
    · exfalso
      have hnd : ((List.range (2 ^ n + 1)).map fun i => (itI n t i s).toNat).Nodup := by
        unfold List.Nodup
        rw [List.pairwise_map, List.pairwise_iff_getElem]
        intro i j hi hj hij he
        simp only [List.getElem_range] at he
        simp only [List.length_range] at hi hj
        have h1 := itI_le (t := t) (n := n) (by omega) hs i
        have h2 := itI_le (t := t) (n := n) (by omega) hs j
        exact hx ⟨i, j, hij, by omega, by omega⟩
      have := nodup_le (N := 2 ^ n) hnd fun x hx => by
        obtain ⟨i, _, rfl⟩ := List.mem_map.1 hx
        have h1 := itI_le (t := t) (n := n) (by omega) hs i
        have e : ((2 ^ n : Nat) : Int) = 2 ^ n := by simp
        omega
      simp at this
      omega
  obtain ⟨i, j, hij, hj, he⟩ := hc
  refine ⟨j - i, by omega, by omega, ?_⟩
  have e : j = (j - i) + i := by omega
  rw [e, itI_add] at he
  exact (itI_inj h hs (itI_le (by omega) hs _) i he).symm
end Go.Proofs
