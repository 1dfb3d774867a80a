/-
  What is known of a slice's elements; a byte's top bit.
-/
import Derived.Test.YtmdiokmkokjpiaaGreatCore19
set_option linter.all false
set_option linter.unusedVariables false
set_option linter.unusedSimpArgs false
set_option linter.unnecessarySimpa false
namespace Go.Aw
open Go.ChangeShapes Go.WideShapes Go.RowKit

/-- What the cells of 'len' elements of 'sz' cells each, from 'off' on, hold. -/
@[irreducible] def slc (off sz len : Nat) (E : Nat → List Value) (o : Nat) : Option Value :=
  if off ≤ o ∧ (o - off) / sz < len then (E ((o - off) / sz))[(o - off) % sz]? else none

theorem slc_at {off sz len : Nat} {E : Nat → List Value} {n m o : Nat} {v : Value} (hn : n < len) (hm : m < sz) (h : (E n)[m]? = some v) (ho : o = off + n * sz + m) : slc off sz len E o = some v := by
  subst ho
  unfold slc
  have e1 : off + n * sz + m - off = m + sz * n := by rw [Nat.mul_comm]; omega
  have hd : (off + n * sz + m - off) / sz = n := by rw [e1, Nat.add_mul_div_left _ _ (by omega), Nat.div_eq_of_lt hm]; omega
  have hr : (off + n * sz + m - off) % sz = m := by rw [e1, Nat.add_mul_mod_self_left, Nat.mod_eq_of_lt hm]
  rw [hd, hr, if_pos ⟨by omega, hn⟩]; exact h

theorem slc_ex {off sz len : Nat} {E : Nat → List Value} {k : Value → Prop} {o : Nat} (n m : Nat) {v : Value} (hn : n < len) (hm : m < sz) (h : (E n)[m]? = some v) (ho : o = off + n * sz + m) (hk : k v) : ∃ v, slc off sz len E o = some v ∧ k v :=
  ⟨v, slc_at hn hm h ho, hk⟩

theorem slc_some {off sz len : Nat} {E : Nat → List Value} {o : Nat} {v : Value} (h : slc off sz len E o = some v) (hs : 0 < sz) : ∃ n m, n < len ∧ o = off + n * sz + m ∧ (E n)[m]? = some v := by
  unfold slc at h
  split at h
  · rename_i hc
    refine ⟨(o - off) / sz, (o - off) % sz, hc.2, ?_, h⟩
    have := Nat.div_add_mod (o - off) sz
    rw [Nat.mul_comm] at this
    omega
  · cases h

section
variable {P : Program} {T : Tab}

/-- A walk over a law that reads one slice. -/
theorem walk_slc {f : FuncId} {args cargs : List Value} {off sz len : Nat} {E : Nat → List Value} {ks : List CK} (h : ACalls P f args [.ro (slc off sz len E)] fun v _ => v = .bool true) (hsz : 0 < sz)
    {b : Nat} (hv : VRs [b] args cargs) (w : World) (hb : b < w.heap.size) (hE : ∀ n, n < len → FitsAll ks (E n))
    (hg : ∀ n, n < len → ∀ m x, (E n)[m]? = some x → w.cell? ⟨b, off + n * sz + m, none⟩ = some x) :
    Calls P f cargs.toArray w fun e w' => e = .returned (.bool true) ∧ Below w.heap.size w w' :=
  walk_ro h hv w hb fun o v hs => by
    obtain ⟨n, m, hn, rfl, hm⟩ := slc_some hs hsz
    refine ⟨hg n hn m v hm, ?_⟩
    exact ((hE n hn).vrs [b]).2 m v v hm hm
end

/-! ## A loop whose rounds make memory that is forgotten -/
def mix : List Value → List Value → List Value
  | _ :: l, .chan none :: m => .chan none :: mix l m
  | v :: l, _ :: m => v :: mix l m
  | l, [] => l
  | [], _ => []
def bdJ (n : Nat) (v : Value) : Bool := match v with | .chan none => true | v => bdv 6 n v
def bdB (n : Nat) (b : Blk) : Bool := match b with | .cells c _ => c.all (bdv 6 n) | _ => true
def roMask : List Blk → List Blk → List Blk
  | b0 :: H0, b :: H2 => (match b with | .ro f => .ro f | _ => b0) :: roMask H0 H2
  | H0, [] => H0
  | [], b :: H2 => match b with | .ro _ => [.gone] | _ => roMask [] H2

theorem fadeS_of {n : Nat} : ∀ {l m : List Value}, mix l m = m → m.all (bdJ n) = true → fadeS n l m
  | [], [], _, _ => trivial
  | _ :: _, [], h, _ => by simp [mix] at h
  | [], _ :: _, h, _ => by simp [mix] at h
  | v :: l, w :: m, h, hb => by
    simp only [List.all_cons, Bool.and_eq_true] at hb
    unfold fadeS
    split
    · rename_i heq; simp at heq
    · rename_i heq heq2
      cases heq; cases heq2
      simp only [mix, List.cons.injEq, true_and] at h
      exact fadeS_of h hb.2
    · rename_i hc heq heq2
      cases heq; cases heq2
      have hb1 : bdv 6 n w = true := by
        have := hb.1
        unfold bdJ at this
        split at this
        · exact absurd rfl (hc)
        · exact this
      have h' : v = w ∧ mix l m = m := by
        unfold mix at h
        split at h
        · rename_i heq heq2; cases heq; cases heq2; exact absurd rfl hc
        · rename_i heq heq2; cases heq; cases heq2; simpa using h
        · rename_i heq heq2; cases heq2
        · rename_i heq heq2 ; cases heq
      exact ⟨hb1, h'.1, fadeS_of h'.2 hb.2⟩
    · rename_i h1 h2 h3
      exact h3 v l w m rfl rfl

theorem fadeH_of {n : Nat} : ∀ {H2 H0 : List Blk} {J : List Blk}, H2.all (bdB n) = true → roMask H0 H2 = H0 → fadeH n H0 (H2 ++ J) H2
  | [], H0, J, _, _ => by unfold fadeH; exact trivial
  | b :: H2, H0, J, hb, hr => by
    simp only [List.all_cons, Bool.and_eq_true] at hb
    cases b with
    | cells c e =>
      cases H0 with
      | nil =>
        have h9 : roMask [] H2 = [] := by simpa [roMask] using hr
        simp only [List.cons_append]
        unfold fadeH
        exact ⟨by simpa [bdB] using hb.1, rfl, fadeH_of (H0 := []) hb.2 h9⟩
      | cons b0 H0 =>
        have h9 : roMask H0 H2 = H0 := by simpa [roMask] using hr
        simp only [List.cons_append]
        unfold fadeH
        exact ⟨by simpa [bdB] using hb.1, rfl, fadeH_of (H0 := H0) hb.2 h9⟩
    | ro f =>
      cases H0 with
      | nil => simp [roMask] at hr
      | cons b0 H0 =>
        have h9 : .ro f = b0 ∧ roMask H0 H2 = H0 := by simpa [roMask] using hr
        simp only [List.cons_append]
        unfold fadeH
        exact ⟨h9.1.symm, rfl, fadeH_of hb.2 h9.2⟩
    | gone =>
      cases H0 with
      | nil =>
        have h9 : roMask [] H2 = [] := by simpa [roMask] using hr
        simp only [List.cons_append]
        unfold fadeH
        exact fadeH_of (H0 := []) hb.2 h9
      | cons b0 H0 =>
        have h9 : roMask H0 H2 = H0 := by simpa [roMask] using hr
        simp only [List.cons_append]
        unfold fadeH
        exact fadeH_of (H0 := H0) hb.2 h9

/-- **A loop**, by what the frame and the heap hold ahead of each round; what a round makes beside that is forgotten. -/
theorem ALoop.fd {σ : Type} {body : AK → List Value → List Blk → Prop} {K : AK} {ts : List Value} {H : List Blk} (fr : σ → List Value) (hp : σ → List Blk) (inv : σ → Prop) (m : σ → Nat) (s0 : σ) (J0 : List Blk)
    (h0 : mix ts (fr s0) = fr s0) (hh : H = hp s0 ++ J0) (hi : inv s0)
    (hok : ∀ s, Nat.ble H.length (hp s).length = true ∧ (fr s).all (bdJ (hp s).length) = true ∧ (hp s).all (bdB (hp s).length) = true ∧ roMask H (hp s) = H)
    (round : ∀ s, inv s → ∀ R : List Value → List Blk → Prop, (∀ s' ts' H' J, mix ts' (fr s') = fr s' → H' = hp s' ++ J → inv s' → m s' < m s → R ts' H') →
      body (fun e ts' H' => match e with | .normal => R ts' H' | e => K e ts' H') (fr s) (hp s)) : ALoop body K ts H := by
  have hf : ∀ s ts' H' J, mix ts' (fr s) = fr s → H' = hp s ++ J → Fade H ts' H' (fr s) (hp s) := fun s ts' H' J h1 h2 => by
    obtain ⟨a, b, c, d⟩ := hok s
    refine .inl ⟨a, fadeS_of h1 b, ?_⟩
    rw [h2]; exact fadeH_of c d
  have key : ∀ (n : Nat) (s : σ), inv s → m s < n → roundsF body K H n (fr s) (hp s) := by
    intro n
    induction n with
    | zero => intro s _ h; omega
    | succ n ih =>
      intro s hI hm
      exact round s hI (fun ts' H' => ∃ ts2 H2, Fade H ts' H' ts2 H2 ∧ roundsF body K H n ts2 H2) fun s' ts' H' J h1 h2 hI' hm' => ⟨_, _, hf s' ts' H' J h1 h2, ih s' hI' (by omega)⟩
  exact .fade (m s0 + 1) _ _ (hf s0 ts H J0 h0 hh) (key _ s0 hi (by omega))

theorem and128u (n : Int) (h : 0 ≤ n ∧ n ≤ 255) : (bits .and .u8 n 128 != 0) = decide (128 ≤ n) := by
  obtain ⟨j, rfl⟩ : ∃ j : Nat, n = j := ⟨n.toNat, by omega⟩
  have key : ∀ j : Nat, j < 256 → (bits .and .u8 (j : Int) 128 != 0) = decide (128 ≤ (j : Int)) := by decide +kernel
  exact key j (by omega)
end Go.Aw
