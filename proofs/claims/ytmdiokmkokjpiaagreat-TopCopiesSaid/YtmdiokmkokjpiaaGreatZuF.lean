/-
  Walks through the functions of the program, by contract.
-/
import Derived.Test.YtmdiokmkokjpiaaGreatZtF
set_option linter.all false
set_option linter.unusedVariables false
set_option linter.unusedSimpArgs false
set_option linter.unnecessarySimpa false
namespace Go.Proofs
open Go.Aw
set_option maxRecDepth 100000
set_option maxHeartbeats 8000000
/-- A thing behind some ticks. -/
def thN (u : Int) : Nat → TH → TH
  | 0, t => t
  | n + 1, t => (thN u n t).tk u
def t00 : TH := ⟨0, 0, 255⟩
theorem thN_add (u : Int) (a : Nat) (t : TH) : ∀ b, thN u b (thN u a t) = thN u (a + b) t
  | 0 => rfl
  | b + 1 => by rw [thN, thN_add u a t b]; rfl
theorem tk_mod (t : TH) (u : Int) : t.tk u = t.tk (u % 8) := by unfold TH.tk; rw [Int.emod_emod_of_dvd _ (by decide)]
theorem thN_mod (u : Int) (t : TH) : ∀ n, thN u n t = thN (u % 8) n t
  | 0 => rfl
  | n + 1 => by rw [thN, thN, thN_mod u t n, tk_mod]
def wdN (k : Nat) : Nat := if k = 5 then 2 else if k = 7 then 4 else 1
def ldN (k : Nat) : Nat := if k = 5 ∨ k = 7 then 6 else 5
def cpL (k : Nat) : List Nat := if k = 1 then [0, 16] else if k = 2 then [0, 32] else if k = 3 then [0, 16, 32] else if k = 4 then [0, 64] else if k = 6 then [0, 32, 64] else [0]
/-- The dot that a thing shows. -/
def sD (k : Nat) (t : TH) : Int := dotF (ag1 t.ln t.sc) (ag2 t.ln t.sc) (ldN k : Nat)
/-- The dots of a line. -/
def chkD (k r : Nat) : Bool :=
  let D := sD k (thN k (320 + r) t00)
  ((cpL k).all fun i => (List.range (8 * wdN k)).all fun d => !decide ((i + ldN k + d) % 160 = r) || decide (D = (d : Int))) &&
  (((cpL k).any fun i => (List.range (8 * wdN k)).any fun d => decide ((i + ldN k + d) % 160 = r)) || decide (D < 0) || decide ((8 * wdN k : Nat) ≤ D))
theorem thN_per0 : ∀ k : Fin 8, (thN (k.val : Nat) 480 t00).p = (thN (k.val : Nat) 320 t00).p ∧ (thN (k.val : Nat) 480 t00).ln = (thN (k.val : Nat) 320 t00).ln ∧ (thN (k.val : Nat) 480 t00).sc = (thN (k.val : Nat) 320 t00).sc := by decide +kernel
theorem chk_all : ∀ k : Fin 8, ∀ r : Fin 160, chkD k.val r.val = true := by decide +kernel
theorem TH.ext3 {a b : TH} (h1 : a.p = b.p) (h2 : a.ln = b.ln) (h3 : a.sc = b.sc) : a = b := by cases a; cases b; simp_all
theorem thN_per (k : Nat) (hk : k < 8) (r : Nat) : ∀ q, thN (k : Nat) (320 + (160 * q + r)) t00 = thN (k : Nat) (320 + r) t00
  | 0 => by rw [Nat.mul_zero, Nat.zero_add]
  | q + 1 => by
    obtain ⟨h1, h2, h3⟩ := thN_per0 ⟨k, hk⟩
    have e : thN (k : Nat) 480 t00 = thN (k : Nat) 320 t00 := TH.ext3 h1 h2 h3
    rw [← thN_per k hk r q, show 320 + (160 * (q + 1) + r) = 480 + (160 * q + r) from by omega, ← thN_add, e, thN_add]
/-- The dots of all copies, held against a place. -/
def wantB (k : Nat) (g : Int) (r : Nat) : Bool := (cpL k).any fun i => (List.range (8 * wdN k)).any fun d => decide ((i + ldN k + d) % 160 = r) && graphI g false (wdN k : Nat) (d : Nat)
theorem wdN_pos (k : Nat) : 1 ≤ wdN k := by unfold wdN; split; omega; split <;> omega
theorem graphI_out {g : Int} {w : Nat} {D : Int} (hw : 1 ≤ w) (h : D < 0 ∨ ((8 * w : Nat) : Int) ≤ D) : graphI g false (w : Nat) D = false := by
  unfold graphI
  by_cases h0 : ((w : Nat) : Int) < 1 ∨ D < 0
  · rw [if_pos h0]
  · rw [if_neg h0]
    have hd : ((8 * w : Nat) : Int) ≤ D := by omega
    have : 8 ≤ D / (w : Int) := (Int.le_ediv_iff_mul_le (by omega)).2 (by push_cast at hd; omega)
    rw [if_pos (by omega)]
theorem dot_law (k : Nat) (hk : k < 8) (g : Int) (n : Nat) (hn : 320 ≤ n) : graphI g false (wdN k : Nat) (sD k (thN (k : Nat) n t00)) = wantB k g (n % 160) := by
  have e : n = 320 + (160 * ((n - 320) / 160) + n % 160) := by omega
  have et : thN (k : Nat) n t00 = thN (k : Nat) (320 + n % 160) t00 := by
    conv => lhs; rw [e]
    exact thN_per k hk _ _
  rw [et]
  have hr : n % 160 < 160 := Nat.mod_lt _ (by decide)
  generalize n % 160 = r at *
  have hc := chk_all ⟨k, hk⟩ ⟨r, hr⟩
  unfold chkD at hc
  simp only [] at hc
  generalize sD k (thN (k : Nat) (320 + r) t00) = D at *
  rw [Bool.and_eq_true] at hc
  obtain ⟨h1, h2⟩ := hc
  rw [Bool.eq_iff_iff]
  unfold wantB
  simp only [List.any_eq_true, List.all_eq_true, Bool.or_eq_true, Bool.and_eq_true, Bool.not_eq_true', decide_eq_true_eq, decide_eq_false_iff_not, List.mem_range] at h1 h2 ⊢
  constructor
  · intro hg
    rcases h2 with (⟨i, hi, d, hd, he⟩ | h2) | h2
    · have hD : D = (d : Int) := by
        rcases h1 i hi d hd with h | h
        · exact absurd he h
        · exact h
      exact ⟨i, hi, d, hd, he, by rw [← hD]; exact hg⟩
    · rw [graphI_out (wdN_pos k) (.inl h2)] at hg; cases hg
    · rw [graphI_out (wdN_pos k) (.inr h2)] at hg; cases hg
  · rintro ⟨i, hi, d, hd, he, hg⟩
    rcases h1 i hi d hd with h | h
    · exact absurd he h
    · rw [h]; exact hg
/-- How many pixels have passed at a clock. -/
def visN (u : Nat) : Nat := 160 * (u / 228) + (u % 228 - 68)
theorem visN_succ (u : Nat) : visN (u + 1) = visN u + if u % 228 < 68 then 0 else 1 := by
  unfold visN
  split <;> omega
theorem visN_mono (u i : Nat) : visN u ≤ visN (u + i) := by unfold visN; omega
theorem stpN_t0 (s : TS) (hs : s.Top) : ∀ i, (stpN i s).t0 = thN (rg s.L 4) (visN (s.c + i) - visN s.c) s.t0
  | 0 => by rw [Nat.add_zero, Nat.sub_self]; rfl
  | i + 1 => by
    have e := visN_succ (s.c + i)
    have hm := visN_mono s.c i
    rw [stpN, stp_t0, stpN_c s hs.c, stpN_L, stpN_t0 s hs i, ← Nat.add_assoc]
    by_cases h : (s.c + i) % 228 < 68
    · rw [if_pos h] at e ⊢
      rw [e, Nat.add_zero]
    · rw [if_neg h] at e ⊢
      rw [e, show visN (s.c + i) + 1 - visN s.c = (visN (s.c + i) - visN s.c) + 1 from by omega]
      rfl
theorem stpN_t1 (s : TS) (hs : s.Top) : ∀ i, (stpN i s).t1 = thN (rg s.L 5) (visN (s.c + i) - visN s.c) s.t1
  | 0 => by rw [Nat.add_zero, Nat.sub_self]; rfl
  | i + 1 => by
    have e := visN_succ (s.c + i)
    have hm := visN_mono s.c i
    rw [stpN, stp_t1, stpN_c s hs.c, stpN_L, stpN_t1 s hs i, ← Nat.add_assoc]
    by_cases h : (s.c + i) % 228 < 68
    · rw [if_pos h] at e ⊢
      rw [e, Nat.add_zero]
    · rw [if_neg h] at e ⊢
      rw [e, show visN (s.c + i) + 1 - visN s.c = (visN (s.c + i) - visN s.c) + 1 from by omega]
      rfl
theorem wd_wdN {u : Int} {k : Nat} (hk : u % 8 = (k : Int)) (h8 : k < 8) : wd u = ((wdN k : Nat) : Int) ∧ (if wd u = 1 then (5 : Int) else 6) = ((ldN k : Nat) : Int) := by
  have h : k = 0 ∨ k = 1 ∨ k = 2 ∨ k = 3 ∨ k = 4 ∨ k = 5 ∨ k = 6 ∨ k = 7 := by omega
  unfold wd
  rcases h with rfl | rfl | rfl | rfl | rfl | rfl | rfl | rfl <;> simp [hk, wdN, ldN]
theorem plB0_law (q : TS) (k n : Nat) (hk : rg q.L 4 % 8 = (k : Int)) (h8 : k < 8) (hn : 320 ≤ n) (ht : q.t0 = thN (k : Nat) n t00) : plB0 q = wantB k q.g00 (n % 160) := by
  obtain ⟨h1, h2⟩ := wd_wdN hk h8
  unfold plB0
  rw [← dot_law k h8 q.g00 n hn, h2, h1, ht]
  rfl
theorem plB1_law (q : TS) (k n : Nat) (hk : rg q.L 5 % 8 = (k : Int)) (h8 : k < 8) (hn : 320 ≤ n) (ht : q.t1 = thN (k : Nat) n t00) : plB1 q = wantB k q.g10 (n % 160) := by
  obtain ⟨h1, h2⟩ := wd_wdN hk h8
  unfold plB1
  rw [← dot_law k h8 q.g10 n hn, h2, h1, ht]
  rfl
end Go.Proofs
