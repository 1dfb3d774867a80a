/-
  What is pushed is pulled; what is called comes back: the processor's part.
-/
import Derived.Test.YtmdiokmkokjpiaaDoorQjF
set_option linter.all false
set_option linter.unusedVariables false
set_option linter.unusedSimpArgs false
set_option linter.unnecessarySimpa false
set_option linter.unusedSectionVars false
namespace Go.Proofs
open Go.Aw
variable [Base] [Door]
set_option maxRecDepth 100000
set_option maxHeartbeats 8000000
theorem cd_PHA : CdOk 72 ⟨#[80, 72, 65]⟩ 0 5 (knownB 72 ⟨#[80, 72, 65]⟩) := cd_of 72 (by decide) (by decide +kernel) (by decide +kernel) (by decide +kernel)
theorem cd_PHP : CdOk 8 ⟨#[80, 72, 80]⟩ 0 5 (knownB 8 ⟨#[80, 72, 80]⟩) := cd_of 8 (by decide) (by decide +kernel) (by decide +kernel) (by decide +kernel)
theorem cd_PLP : CdOk 40 ⟨#[80, 76, 80]⟩ 0 6 (knownB 40 ⟨#[80, 76, 80]⟩) := cd_of 40 (by decide) (by decide +kernel) (by decide +kernel) (by decide +kernel)
theorem cd_PLA : CdOk 104 ⟨#[80, 76, 65]⟩ 0 6 (knownB 104 ⟨#[80, 76, 65]⟩) := cd_of 104 (by decide) (by decide +kernel) (by decide +kernel) (by decide +kernel)
theorem cd_JSR : CdOk 32 ⟨#[74, 83, 82]⟩ 6 8 (knownB 32 ⟨#[74, 83, 82]⟩) := cd_of 32 (by decide) (by decide +kernel) (by decide +kernel) (by decide +kernel)
theorem cd_RTS : CdOk 96 ⟨#[82, 84, 83]⟩ 0 9 (knownB 96 ⟨#[82, 84, 83]⟩) := cd_of 96 (by decide) (by decide +kernel) (by decide +kernel) (by decide +kernel)
section
variable {A X Y S P q op : Int} {nm : ByteArray} {md kd : Int} {kn : Bool} {pl wr b : Int} {m : Nat → Int}
theorem dn_pha (h0 : 0 ≤ q) (h1 : q < 8190) (hS : Byt S) (hv : m q.toNat = 72) : DnOk (cpu A X Y S P q 0 op nm md kd kn pl wr b) m 3 (cpu A X Y (IntKind.u8.wrap (S - 1)) P (q + 1) 0 72 (⟨#[80, 72, 65]⟩) 0 5 (knownB 72 ⟨#[80, 72, 65]⟩) pl wr b) (upd m (256 + S).toNat A) :=
  dn3 (cp_ok _ _ _ _ _ _ _ _ _ _ _ _ _ _ _) (cp_ok _ _ _ _ _ _ _ _ _ _ _ _ _ _ _) rfl rfl (cp_ok _ _ _ _ _ _ _ _ _ _ _ _ _ _ _) rfl rfl (cp_ok _ _ _ _ _ _ _ _ _ _ _ _ _ _ _) (fl_fetch5x0 h0 (by omega) hv cd_PHA) (fl_push1 (by omega) (by omega)) (fl_push2 hS (by unfold strEq; decide))
theorem dn_php (h0 : 0 ≤ q) (h1 : q < 8190) (hS : Byt S) (hv : m q.toNat = 8) : DnOk (cpu A X Y S P q 0 op nm md kd kn pl wr b) m 3 (cpu A X Y (IntKind.u8.wrap (S - 1)) P (q + 1) 0 8 (⟨#[80, 72, 80]⟩) 0 5 (knownB 8 ⟨#[80, 72, 80]⟩) pl wr b) (upd m (256 + S).toNat (bits .or .u8 P 16)) :=
  dn3 (cp_ok _ _ _ _ _ _ _ _ _ _ _ _ _ _ _) (cp_ok _ _ _ _ _ _ _ _ _ _ _ _ _ _ _) rfl rfl (cp_ok _ _ _ _ _ _ _ _ _ _ _ _ _ _ _) rfl rfl (cp_ok _ _ _ _ _ _ _ _ _ _ _ _ _ _ _) (fl_fetch5x0 h0 (by omega) hv cd_PHP) (fl_push1 (by omega) (by omega)) (fl_push2p hS (by unfold strEq; decide))
theorem dn_plp {T v : Int} (h0 : 0 ≤ q) (h1 : q < 8190) (hS : Byt S) (hT : IntKind.u8.wrap (S + 1) = T) (hT2 : Byt T) (hv : m q.toNat = 40) (hw : m (256 + T).toNat = v) : DnOk (cpu A X Y S P q 0 op nm md kd kn pl wr b) m 4 (cpu A X Y T (clnF v) (q + 1) 0 40 (⟨#[80, 76, 80]⟩) 0 6 (knownB 40 ⟨#[80, 76, 80]⟩) pl wr b) m := by
  subst hT
  exact dn4 (cp_ok _ _ _ _ _ _ _ _ _ _ _ _ _ _ _) (cp_ok _ _ _ _ _ _ _ _ _ _ _ _ _ _ _) rfl rfl (cp_ok _ _ _ _ _ _ _ _ _ _ _ _ _ _ _) rfl rfl (cp_ok _ _ _ _ _ _ _ _ _ _ _ _ _ _ _) rfl rfl (cp_ok _ _ _ _ _ _ _ _ _ _ _ _ _ _ _) (fl_fetch6x0 h0 (by omega) hv cd_PLP) (fl_pull1 (by omega) (by omega)) (fl_pull2 hS) (fl_pull3p hT2 hw (by unfold strEq; decide))
theorem dn_pla {T v : Int} (h0 : 0 ≤ q) (h1 : q < 8190) (hS : Byt S) (hT : IntKind.u8.wrap (S + 1) = T) (hT2 : Byt T) (hv : m q.toNat = 104) (hw : m (256 + T).toNat = v) : DnOk (cpu A X Y S P q 0 op nm md kd kn pl wr b) m 4 (cpu v X Y T (markF P v) (q + 1) 0 104 (⟨#[80, 76, 65]⟩) 0 6 (knownB 104 ⟨#[80, 76, 65]⟩) pl wr b) m := by
  subst hT
  exact dn4 (cp_ok _ _ _ _ _ _ _ _ _ _ _ _ _ _ _) (cp_ok _ _ _ _ _ _ _ _ _ _ _ _ _ _ _) rfl rfl (cp_ok _ _ _ _ _ _ _ _ _ _ _ _ _ _ _) rfl rfl (cp_ok _ _ _ _ _ _ _ _ _ _ _ _ _ _ _) rfl rfl (cp_ok _ _ _ _ _ _ _ _ _ _ _ _ _ _ _) (fl_fetch6x0 h0 (by omega) hv cd_PLA) (fl_pull1 (by omega) (by omega)) (fl_pull2 hS) (fl_pull3 hT2 hw (by unfold strEq; decide))
theorem dn_jsr {T v v2 p : Int} {m2 m3 : Nat → Int} (h0 : 0 ≤ q) (h1 : q < 8180) (hS : Byt S) (hT : IntKind.u8.wrap (S - 1) = T) (hT2 : Byt T) (hv : m q.toNat = 32) (hv1 : m (q + 1).toNat = v)
    (hm2 : upd m (256 + S).toNat (IntKind.u8.wrap ((q + 1 + 1).fdiv (2 ^ min (8 : Int).toNat IntKind.u16.bits))) = m2) (hm3 : upd m2 (256 + T).toNat (IntKind.u8.wrap (q + 1 + 1)) = m3) (hv2 : m3 (q + 1 + 1).toNat = v2) (hp : wordF v v2 = p) :
    DnOk (cpu A X Y S P q 0 op nm md kd kn pl wr b) m 6 (cpu A X Y (IntKind.u8.wrap (T - 1)) P p 0 32 (⟨#[74, 83, 82]⟩) 6 8 (knownB 32 ⟨#[74, 83, 82]⟩) pl wr v) m3 := by
  subst hT; subst hm2; subst hm3
  exact dn6 (cp_ok _ _ _ _ _ _ _ _ _ _ _ _ _ _ _) (cp_ok _ _ _ _ _ _ _ _ _ _ _ _ _ _ _) rfl rfl (cp_ok _ _ _ _ _ _ _ _ _ _ _ _ _ _ _) rfl rfl (cp_ok _ _ _ _ _ _ _ _ _ _ _ _ _ _ _) rfl rfl (cp_ok _ _ _ _ _ _ _ _ _ _ _ _ _ _ _) rfl rfl (cp_ok _ _ _ _ _ _ _ _ _ _ _ _ _ _ _) rfl rfl (cp_ok _ _ _ _ _ _ _ _ _ _ _ _ _ _ _) (fl_fetch8x6 h0 (by omega) hv cd_JSR) (fl_call1 (by omega) (by omega) hv1) (fl_call2 hS) (fl_call3 hS) (fl_call4 hT2) (fl_call5 (by omega) (by omega) hv2 hp)
theorem dn_rts {T U v v2 p : Int} (h0 : 0 ≤ q) (h1 : q < 8180) (hS : Byt S) (hT : IntKind.u8.wrap (S + 1) = T) (hT2 : Byt T) (hU : IntKind.u8.wrap (T + 1) = U) (hU2 : Byt U) (hv : m q.toNat = 96) (hw : m (256 + T).toNat = v) (hw2 : m (256 + U).toNat = v2) (hp : wordF v v2 = p) (p0 : 0 ≤ p) (p1 : p < 8190) :
    DnOk (cpu A X Y S P q 0 op nm md kd kn pl wr b) m 6 (cpu A X Y U P (p + 1) 0 96 (⟨#[82, 84, 83]⟩) 0 9 (knownB 96 ⟨#[82, 84, 83]⟩) pl wr v) m := by
  subst hT; subst hU
  exact dn6 (cp_ok _ _ _ _ _ _ _ _ _ _ _ _ _ _ _) (cp_ok _ _ _ _ _ _ _ _ _ _ _ _ _ _ _) rfl rfl (cp_ok _ _ _ _ _ _ _ _ _ _ _ _ _ _ _) rfl rfl (cp_ok _ _ _ _ _ _ _ _ _ _ _ _ _ _ _) rfl rfl (cp_ok _ _ _ _ _ _ _ _ _ _ _ _ _ _ _) rfl rfl (cp_ok _ _ _ _ _ _ _ _ _ _ _ _ _ _ _) rfl rfl (cp_ok _ _ _ _ _ _ _ _ _ _ _ _ _ _ _) (fl_fetch9x0 h0 (by omega) hv cd_RTS) (fl_back1 (by omega) (by omega)) (fl_back2 hS) (fl_back3 hT2 hw) (fl_back4 hU2 hw2 hp) (fl_back5 p0 (by omega))
end
theorem dec_byt {S : Int} (h : Byt S) : Byt (IntKind.u8.wrap (S - 1)) := by
  obtain ⟨k, rfl⟩ := fin_of h.1 h.2
  have h : ∀ k : Fin 256, 0 ≤ IntKind.u8.wrap ((k.val : Int) - 1) ∧ IntKind.u8.wrap ((k.val : Int) - 1) ≤ 255 := by decide +kernel
  exact h k
theorem dec_inc {S : Int} (h : Byt S) : IntKind.u8.wrap (IntKind.u8.wrap (S - 1) + 1) = S := by
  obtain ⟨k, rfl⟩ := fin_of h.1 h.2
  have h : ∀ k : Fin 256, IntKind.u8.wrap (IntKind.u8.wrap ((k.val : Int) - 1) + 1) = (k.val : Int) := by decide +kernel
  exact h k
theorem dec_ne {S : Int} (h : Byt S) : IntKind.u8.wrap (S - 1) ≠ S := by
  obtain ⟨k, rfl⟩ := fin_of h.1 h.2
  have h : ∀ k : Fin 256, IntKind.u8.wrap ((k.val : Int) - 1) ≠ (k.val : Int) := by decide +kernel
  exact h k
theorem cln_or {P : Int} (h : Byt P) : clnF (bits .or .u8 (clnF P) 16) = clnF P := by
  obtain ⟨k, rfl⟩ := fin_of h.1 h.2
  have h : ∀ k : Fin 256, clnF (bits .or .u8 (clnF (k.val : Int)) 16) = clnF (k.val : Int) := by decide +kernel
  exact h k
theorem cln_byt {P : Int} (h : Byt P) : Byt (clnF P) := by
  obtain ⟨k, rfl⟩ := fin_of h.1 h.2
  have h : ∀ k : Fin 256, 0 ≤ clnF (k.val : Int) ∧ clnF (k.val : Int) ≤ 255 := by decide +kernel
  exact h k
def setB (p f : Int) (b : Bool) : Int := if b = true then bits .or .u8 p f else bits .andNot .u8 p f
theorem mark_zn {P v : Int} (h : Byt P) : (bits .andNot .u8 (bits .xor .u8 (markF P v) P) 130 != 0) = false := by
  have e : ∃ b c, markF P v = setB (setB P 2 b) 128 c := ⟨_, _, rfl⟩
  obtain ⟨b, c, e⟩ := e
  rw [e]
  obtain ⟨k, rfl⟩ := fin_of h.1 h.2
  have h : ∀ k : Fin 256, ∀ b c : Bool, (bits .andNot .u8 (bits .xor .u8 (setB (setB (k.val : Int) 2 b) 128 c) (k.val : Int)) 130 != 0) = false := by decide +kernel
  exact h k b c
theorem walk_stack (A X Y S P PC : Int) (hS : Byt S) (hP : Byt P) : ACalls Tryd.prog 4 [rgV A X Y S P PC] [] fun r _ => r = .bool true := by
  have hT := dec_byt hS
  have hne := dec_ne hS
  have hi := dec_inc hS
  have hi2 := dec_inc hT
  have hU := dec_byt hT
  generalize hTe : IntKind.u8.wrap (S - 1) = T at hT hne hi hi2 hU
  generalize hUe : IntKind.u8.wrap (T - 1) = U at hi2 hU
  have hc := cln_byt hP
  have hco := cln_or hP
  generalize hpe : clnF P = p at hc hco
  have nS : ∀ k : Nat, 4096 ≤ k → k ≠ (256 + S).toNat := fun k hk => by have := hS.1; have := hS.2; omega
  have nT : ∀ k : Nat, 4096 ≤ k → k ≠ (256 + T).toNat := fun k hk => by have := hT.1; have := hT.2; omega
  have nST : (256 + S).toNat ≠ (256 + T).toNat := by have := hS.1; have := hT.1; omega
  have lS : ¬ (4096 ≤ (256 + S).toNat) := by have := hS.1; have := hS.2; omega
  have lT : ¬ (4096 ≤ (256 + T).toNat) := by have := hT.1; have := hT.2; omega
  obtain ⟨m0, hm0⟩ : ∃ m0, m0 = updL (fun _ => 0) 4096 [72, 8, 40, 104] := ⟨_, rfl⟩
  have a0 : m0 4096 = 72 ∧ m0 4097 = 8 ∧ m0 4098 = 40 ∧ m0 4099 = 104 := by subst hm0; decide
  obtain ⟨m1, hm1⟩ : ∃ m1, m1 = upd m0 (256 + S).toNat A := ⟨_, rfl⟩
  obtain ⟨m2, hm2⟩ : ∃ m2, m2 = upd m1 (256 + T).toNat (bits .or .u8 p 16) := ⟨_, rfl⟩
  have f2 : ∀ k : Nat, 4096 ≤ k → m2 k = m0 k := fun k hk => by rw [hm2, upd_other _ _ (nT k hk), hm1, upd_other _ _ (nS k hk)]
  have s2 : m2 (256 + S).toNat = A := by rw [hm2, upd_other _ _ nST, hm1, upd_same]
  have t2 : m2 (256 + T).toNat = bits .or .u8 p 16 := by rw [hm2, upd_same]
  obtain ⟨m5, hm5⟩ : ∃ m5, m5 = updL m2 4096 [32, 0, 24] := ⟨_, rfl⟩
  obtain ⟨m6, hm6⟩ : ∃ m6, m6 = upd m5 6144 96 := ⟨_, rfl⟩
  have a6 : m6 4096 = 32 ∧ m6 4097 = 0 ∧ m6 4098 = 24 ∧ m6 6144 = 96 := by
    subst hm6; subst hm5
    refine ⟨?_, ?_, ?_, upd_same _ _ _⟩ <;> (rw [upd_other _ _ (by decide)]; rfl)
  obtain ⟨m7, hm7⟩ : ∃ m7, upd m6 (256 + S).toNat (IntKind.u8.wrap ((4096 + 1 + 1 : Int).fdiv (2 ^ min (8 : Int).toNat IntKind.u16.bits))) = m7 := ⟨_, rfl⟩
  obtain ⟨m8, hm8⟩ : ∃ m8, upd m7 (256 + T).toNat (IntKind.u8.wrap (4096 + 1 + 1)) = m8 := ⟨_, rfl⟩
  have f8 : ∀ k : Nat, 4096 ≤ k → m8 k = m6 k := fun k hk => by rw [← hm8, upd_other _ _ (nT k hk), ← hm7, upd_other _ _ (nS k hk)]
  have s8 : m8 (256 + S).toNat = 16 := by rw [← hm8, upd_other _ _ nST, ← hm7, upd_same]; decide
  have t8 : m8 (256 + T).toNat = 2 := by rw [← hm8, upd_same]; decide
  have kA := m_at A X Y S P 4096
  rw [hpe] at kA
  have k1 := dn_pha (A := A) (X := X) (Y := Y) (S := S) (P := p) (q := 4096) (op := 0) (nm := .empty) (md := 0) (kd := 0) (kn := false) (pl := 0) (wr := 0) (b := 0) (m := m0) (by decide) (by decide) hS a0.1
  rw [hTe, ← hm1] at k1
  have k2 := dn_php (A := A) (X := X) (Y := Y) (S := T) (P := p) (q := 4096 + 1) (op := 72) (nm := ⟨#[80, 72, 65]⟩) (md := 0) (kd := 5) (kn := knownB 72 ⟨#[80, 72, 65]⟩) (pl := 0) (wr := 0) (b := 0) (m := m1) (by decide) (by decide) hT (by rw [hm1, show ((4096 : Int) + 1).toNat = 4097 from rfl, upd_other _ _ (nS 4097 (by decide))]; exact a0.2.1)
  rw [hUe, ← hm2] at k2
  have k3 := dn_plp (A := A) (X := X) (Y := Y) (S := U) (P := p) (q := 4096 + 1 + 1) (op := 8) (nm := ⟨#[80, 72, 80]⟩) (md := 0) (kd := 5) (kn := knownB 8 ⟨#[80, 72, 80]⟩) (pl := 0) (wr := 0) (b := 0) (m := m2) (by decide) (by decide) hU hi2 hT (by rw [show ((4096 : Int) + 1 + 1).toNat = 4098 from rfl, f2 4098 (by decide)]; exact a0.2.2.1) t2
  rw [hco] at k3
  have k4 := dn_pla (A := A) (X := X) (Y := Y) (S := T) (P := p) (q := 4096 + 1 + 1 + 1) (op := 40) (nm := ⟨#[80, 76, 80]⟩) (md := 0) (kd := 6) (kn := knownB 40 ⟨#[80, 76, 80]⟩) (pl := 0) (wr := 0) (b := 0) (m := m2) (by decide) (by decide) hT hi hS (by rw [show ((4096 : Int) + 1 + 1 + 1).toNat = 4099 from rfl, f2 4099 (by decide)]; exact a0.2.2.2) s2
  have k5 := dn_jsr (A := A) (X := X) (Y := Y) (S := S) (P := p) (q := 4096) (op := 0) (nm := .empty) (md := 0) (kd := 0) (kn := false) (pl := 0) (wr := 0) (b := 0) (m := m6) (T := T) (v := 0) (v2 := 24) (p := 6144) (by decide) (by decide) hS hTe hT a6.1 a6.2.1 hm7 hm8 (by rw [show ((4096 : Int) + 1 + 1).toNat = 4098 from rfl, f8 4098 (by decide)]; exact a6.2.2.1) (by decide)
  rw [hUe] at k5
  have k6 := dn_rts (A := A) (X := X) (Y := Y) (S := U) (P := p) (q := 6144) (op := 32) (nm := ⟨#[74, 83, 82]⟩) (md := 6) (kd := 8) (kn := knownB 32 ⟨#[74, 83, 82]⟩) (pl := 0) (wr := 0) (b := 0) (m := m8) (T := T) (U := S) (v := 2) (v2 := 16) (p := 4098) (by decide) (by decide) hU hi2 hT hi hS (by rw [show (6144 : Int).toNat = 6144 from rfl, f8 6144 (by decide)]; exact a6.2.2.2) t8 s8 (by decide) (by decide) (by decide)
  refine stack_v (PC := PC) (m0 := m0) (m1 := m1) (m2 := m2) (m3 := m2) (m4 := m2) (m5 := m5) (m6 := m6) (m7 := m8) (m8 := m8) hS (cp_ok _ _ _ _ _ _ _ _ _ _ _ _ _ _ _) (cp_ok _ _ _ _ _ _ _ _ _ _ _ _ _ _ _) (cp_ok _ _ _ _ _ _ _ _ _ _ _ _ _ _ _) (cp_ok _ _ _ _ _ _ _ _ _ _ _ _ _ _ _) (cp_ok _ _ _ _ _ _ _ _ _ _ _ _ _ _ _) (cp_ok _ _ _ _ _ _ _ _ _ _ _ _ _ _ _) (cp_ok _ _ _ _ _ _ _ _ _ _ _ _ _ _ _) rfl rfl rfl rfl rfl rfl rfl rfl rfl rfl runs_ok kA (rg_ok _ _ _ _ _ _ _ _ _ _ _ _ _ _ _) (rg_ok _ _ _ _ _ _ _ _ _ _ _ _ _ _ _) (rg_ok _ _ _ _ _ _ _ _ _ _ _ _ _ _ _) (by rw [hm0]) (dl_of k1 rfl rfl) (dl_of k2 rfl rfl) (dl_of k3 rfl rfl) (dl_of k4 rfl rfl) (by rw [hm5]) (by rw [hm6]) (dl_of k5 rfl rfl) (dl_of k6 rfl rfl) s2 (by rw [hTe]; exact t2) (mark_zn hc)
end Go.Proofs
