/-
  A code that turns a byte writes it twice, one that stores once, one that reads never: the processor's part.
-/
import Derived.Test.YtmdiokmkokjpiaaDoorQmF
set_option linter.all false
set_option linter.unusedVariables false
set_option linter.unusedSimpArgs false
set_option linter.unnecessarySimpa false
set_option linter.unusedSectionVars false
namespace Go.Proofs
open Go.Aw
set_option maxRecDepth 100000
set_option maxHeartbeats 8000000
variable [Base]
def rdN : List ByteArray := [⟨#[78, 79, 80]⟩, ⟨#[79, 82, 65]⟩, ⟨#[66, 73, 84]⟩, ⟨#[65, 78, 68]⟩, ⟨#[69, 79, 82]⟩, ⟨#[65, 68, 67]⟩, ⟨#[76, 68, 89]⟩, ⟨#[76, 68, 65]⟩, ⟨#[76, 68, 88]⟩, ⟨#[76, 65, 88]⟩, ⟨#[67, 80, 89]⟩, ⟨#[67, 77, 80]⟩, ⟨#[67, 80, 88]⟩, ⟨#[83, 66, 67]⟩]
def stN : List ByteArray := [⟨#[83, 84, 89]⟩, ⟨#[83, 84, 65]⟩, ⟨#[83, 84, 88]⟩, ⟨#[83, 65, 88]⟩]
def tnN : List ByteArray := [⟨#[65, 83, 76]⟩, ⟨#[83, 76, 79]⟩, ⟨#[82, 79, 76]⟩, ⟨#[82, 76, 65]⟩, ⟨#[76, 83, 82]⟩, ⟨#[83, 82, 69]⟩, ⟨#[82, 79, 82]⟩, ⟨#[82, 82, 65]⟩, ⟨#[73, 78, 67]⟩, ⟨#[68, 69, 67]⟩, ⟨#[73, 83, 67]⟩, ⟨#[68, 67, 80]⟩]
theorem rdN_all : ∀ k : Fin 256, modeO k.val = 6 → kindO k.val = 1 → (rdN.any fun s => decide (nameO k.val = s)) = true := by decide +kernel
theorem stN_all : ∀ k : Fin 256, modeO k.val = 6 → kindO k.val = 2 → (stN.any fun s => decide (nameO k.val = s)) = true := by decide +kernel
theorem tnN_all : ∀ k : Fin 256, modeO k.val = 6 → kindO k.val = 3 → (tnN.any fun s => decide (nameO k.val = s)) = true := by decide +kernel
theorem word_all : ∀ k : Fin 3584, wordF (IntKind.u8.wrap (4352 + (k.val : Int))) (IntKind.u8.wrap ((4352 + (k.val : Int)).fdiv (2 ^ min (8 : Int).toNat IntKind.u16.bits))) = 4352 + (k.val : Int) := by decide +kernel
theorem cln_idem {P : Int} (h : Byt P) : clnF (clnF P) = clnF P := by
  obtain ⟨k, rfl⟩ := fin_of h.1 h.2
  have h : ∀ k : Fin 256, clnF (clnF (k.val : Int)) = clnF (k.val : Int) := by decide +kernel
  exact h k
theorem any_mem {l : List ByteArray} {x : ByteArray} (h : (l.any fun s => decide (x = s)) = true) : x ∈ l := by
  obtain ⟨s, hs, he⟩ := List.any_eq_true.1 h
  rw [of_decide_eq_true he]; exact hs
theorem rdN_ex {nm : ByteArray} (h : nm ∈ rdN) : ∃ F, RdOk nm F := by
  simp only [rdN, List.mem_cons, List.not_mem_nil, or_false] at h
  rcases h with rfl | rfl | rfl | rfl | rfl | rfl | rfl | rfl | rfl | rfl | rfl | rfl | rfl | rfl
  · exact ⟨_, rd_NOP⟩
  · exact ⟨_, rd_ORA⟩
  · exact ⟨_, rd_BIT⟩
  · exact ⟨_, rd_AND⟩
  · exact ⟨_, rd_EOR⟩
  · exact ⟨_, rd_ADC⟩
  · exact ⟨_, rd_LDY⟩
  · exact ⟨_, rd_LDA⟩
  · exact ⟨_, rd_LDX⟩
  · exact ⟨_, rd_LAX⟩
  · exact ⟨_, rd_CPY⟩
  · exact ⟨_, rd_CMP⟩
  · exact ⟨_, rd_CPX⟩
  · exact ⟨_, rd_SBC⟩
theorem stN_ex {nm : ByteArray} (h : nm ∈ stN) : ∃ V, StOk nm V ∧ UnOk nm := by
  simp only [stN, List.mem_cons, List.not_mem_nil, or_false] at h
  rcases h with rfl | rfl | rfl | rfl
  · exact ⟨_, st_STY, un_STY⟩
  · exact ⟨_, st_STA, un_STA⟩
  · exact ⟨_, st_STX, un_STX⟩
  · exact ⟨_, st_SAX, un_SAX⟩
theorem tnN_ex {nm : ByteArray} (h : nm ∈ tnN) : ∃ V F, TnOk nm V F := by
  simp only [tnN, List.mem_cons, List.not_mem_nil, or_false] at h
  rcases h with rfl | rfl | rfl | rfl | rfl | rfl | rfl | rfl | rfl | rfl | rfl | rfl
  · exact ⟨_, _, tn_ASL⟩
  · exact ⟨_, _, tn_SLO⟩
  · exact ⟨_, _, tn_ROL⟩
  · exact ⟨_, _, tn_RLA⟩
  · exact ⟨_, _, tn_LSR⟩
  · exact ⟨_, _, tn_SRE⟩
  · exact ⟨_, _, tn_ROR⟩
  · exact ⟨_, _, tn_RRA⟩
  · exact ⟨_, _, tn_INC⟩
  · exact ⟨_, _, tn_DEC⟩
  · exact ⟨_, _, tn_ISC⟩
  · exact ⟨_, _, tn_DCP⟩
theorem walk_read [Door] (o : Nat) (ho : o < 256) (B a A X Y S P PC : Int) (ha : 0 ≤ a ∧ a ≤ 65535) (hP : Byt P) (hm : modeO o = 6) (hk : kindO o = 1) {F : RdF} (hR : RdOk (nameO o) F) : ACalls Tryd.prog 3 [inV o B a A X Y S P PC] [] fun r _ => r = .bool true := by
  have hO := cd_of o ho rfl hm hk
  have hci := cln_idem hP
  obtain ⟨p, hp⟩ : ∃ p, clnF P = p := ⟨_, rfl⟩
  rw [hp] at hci
  have hp1 : bits .or .u8 (bits .andNot .u8 P 16) 32 = p := hp
  have hr := Int.tmod_lt_of_pos a (show (0 : Int) < 3584 by decide)
  have hr0 := Int.tmod_nonneg 3584 ha.1
  have hw : IntKind.u16.wrap (4352 + a.tmod 3584) = 4352 + a.tmod 3584 := wrap16 (by omega) (by omega)
  obtain ⟨pl, hpl⟩ : ∃ pl, 4352 + a.tmod 3584 = pl := ⟨_, rfl⟩
  rw [hpl] at hw
  have l0 : 4352 ≤ pl := by omega
  have l1 : pl < 7936 := by omega
  have hwd := word_all ⟨(pl - 4352).toNat, by omega⟩
  have hcast : 4352 + (((pl - 4352).toNat : Nat) : Int) = pl := by omega
  simp only [hcast] at hwd
  obtain ⟨lo, hlo⟩ : ∃ lo, IntKind.u8.wrap pl = lo := ⟨_, rfl⟩
  obtain ⟨hi, hhi⟩ : ∃ hi, IntKind.u8.wrap (pl.fdiv (2 ^ min (8 : Int).toNat IntKind.u16.bits)) = hi := ⟨_, rfl⟩
  rw [hlo, hhi] at hwd
  have hwp : IntKind.u16.wrap (wordF lo hi + IntKind.u16.wrap 0) = pl := by
    rw [hwd, show IntKind.u16.wrap 0 = 0 from by decide, Int.add_zero]; exact wrap16 (by omega) (by omega)
  have hwp2 : wordF (IntKind.u8.wrap pl) hi = pl := by rw [hlo]; exact hwd
  obtain ⟨mC, hmC⟩ : ∃ mC, updL (fun _ => 0) 4096 [(o : Int), lo, hi] = mC := ⟨_, rfl⟩
  obtain ⟨m, hm0⟩ : ∃ m, upd mC pl.toNat B = m := ⟨_, rfl⟩
  have v0 : m (4096 : Int).toNat = (o : Int) := by rw [← hm0, upd_other _ _ (by show 4096 ≠ pl.toNat; omega), ← hmC]; rfl
  have v1 : m ((4096 : Int) + 1).toNat = lo := by rw [← hm0, upd_other _ _ (by show 4097 ≠ pl.toNat; omega), ← hmC]; rfl
  have v2 : m ((4096 : Int) + 1 + 1).toNat = hi := by rw [← hm0, upd_other _ _ (by show 4098 ≠ pl.toNat; omega), ← hmC]; rfl
  have v3 : m pl.toNat = B := by rw [← hm0, upd_same]
  have kA := m_at A X Y S p 4096
  rw [hci] at kA
  exact mem_read (mC := mC) (mL := m) (v := 0) runs_ok hO hp1 (by rw [hpl]; exact hw) (by omega) (by omega) hlo hhi rfl (by rw [hmC]) rfl (by rw [hm0]) rfl kA (cp_ok _ _ _ _ _ _ _ _ _ _ _ _ _ _ _) (cp_ok _ _ _ _ _ _ _ _ _ _ _ _ _ _ _) rfl (cp_ok _ _ _ _ _ _ _ _ _ _ _ _ _ _ _) rfl (cp_ok _ _ _ _ _ _ _ _ _ _ _ _ _ _ _) rfl (cp_ok _ _ _ _ _ _ _ _ _ _ _ _ _ _ _) (fc_of (fl_fetch1x6 (by decide) (by decide) v0 hO) rfl rfl) (fc_of (fl_lower (by decide) (by decide) v1) rfl rfl) (fc_of (fl_upper1 (by decide) (by decide) v2 hwp hwp2) rfl rfl) (fc_of (fl_load1 (by omega) (by omega) v3 hR) rfl rfl) (hR A X Y S p 4096 B) (rg_ok _ _ _ _ _ _ _ _ _ _ _ _ _ _ _)
theorem walk_store [Door] (o : Nat) (ho : o < 256) (B a A X Y S P PC : Int) (ha : 0 ≤ a ∧ a ≤ 65535) (hP : Byt P) (hm : modeO o = 6) (hk : kindO o = 2) {V : Int → Int → Int → Int} (hS : StOk (nameO o) V) (hU : UnOk (nameO o)) : ACalls Tryd.prog 3 [inV o B a A X Y S P PC] [] fun r _ => r = .bool true := by
  have hO := cd_of o ho rfl hm hk
  have hci := cln_idem hP
  obtain ⟨p, hp⟩ : ∃ p, clnF P = p := ⟨_, rfl⟩
  rw [hp] at hci
  have hp1 : bits .or .u8 (bits .andNot .u8 P 16) 32 = p := hp
  have hr := Int.tmod_lt_of_pos a (show (0 : Int) < 3584 by decide)
  have hr0 := Int.tmod_nonneg 3584 ha.1
  have hw : IntKind.u16.wrap (4352 + a.tmod 3584) = 4352 + a.tmod 3584 := wrap16 (by omega) (by omega)
  obtain ⟨pl, hpl⟩ : ∃ pl, 4352 + a.tmod 3584 = pl := ⟨_, rfl⟩
  rw [hpl] at hw
  have l0 : 4352 ≤ pl := by omega
  have l1 : pl < 7936 := by omega
  have hwd := word_all ⟨(pl - 4352).toNat, by omega⟩
  have hcast : 4352 + (((pl - 4352).toNat : Nat) : Int) = pl := by omega
  simp only [hcast] at hwd
  obtain ⟨lo, hlo⟩ : ∃ lo, IntKind.u8.wrap pl = lo := ⟨_, rfl⟩
  obtain ⟨hi, hhi⟩ : ∃ hi, IntKind.u8.wrap (pl.fdiv (2 ^ min (8 : Int).toNat IntKind.u16.bits)) = hi := ⟨_, rfl⟩
  rw [hlo, hhi] at hwd
  have hwp : IntKind.u16.wrap (wordF lo hi + IntKind.u16.wrap 0) = pl := by
    rw [hwd, show IntKind.u16.wrap 0 = 0 from by decide, Int.add_zero]; exact wrap16 (by omega) (by omega)
  have hwp2 : wordF (IntKind.u8.wrap pl) hi = pl := by rw [hlo]; exact hwd
  obtain ⟨mC, hmC⟩ : ∃ mC, updL (fun _ => 0) 4096 [(o : Int), lo, hi] = mC := ⟨_, rfl⟩
  obtain ⟨m, hm0⟩ : ∃ m, upd mC pl.toNat B = m := ⟨_, rfl⟩
  have v0 : m (4096 : Int).toNat = (o : Int) := by rw [← hm0, upd_other _ _ (by show 4096 ≠ pl.toNat; omega), ← hmC]; rfl
  have v1 : m ((4096 : Int) + 1).toNat = lo := by rw [← hm0, upd_other _ _ (by show 4097 ≠ pl.toNat; omega), ← hmC]; rfl
  have v2 : m ((4096 : Int) + 1 + 1).toNat = hi := by rw [← hm0, upd_other _ _ (by show 4098 ≠ pl.toNat; omega), ← hmC]; rfl
  have v3 : m pl.toNat = B := by rw [← hm0, upd_same]
  have kA := m_at A X Y S p 4096
  rw [hci] at kA
  exact mem_store (mC := mC) (mL := m) (mL4 := upd m pl.toNat (V A X Y)) (a' := 0) (x' := 0) (y' := 0) (s' := 0) (p' := 0) runs_ok hO hp1 (by rw [hpl]; exact hw) (by omega) (by omega) hlo hhi rfl (by rw [hmC]) rfl (by rw [hm0]) rfl rfl kA (cp_ok _ _ _ _ _ _ _ _ _ _ _ _ _ _ _) (cp_ok _ _ _ _ _ _ _ _ _ _ _ _ _ _ _) rfl (cp_ok _ _ _ _ _ _ _ _ _ _ _ _ _ _ _) rfl (cp_ok _ _ _ _ _ _ _ _ _ _ _ _ _ _ _) rfl (cp_ok _ _ _ _ _ _ _ _ _ _ _ _ _ _ _) (fc_of (fl_fetch2x6 (by decide) (by decide) v0 hO) rfl rfl) (fc_of (fl_lower (by decide) (by decide) v1) rfl rfl) (fc_of (fl_upper2 (by decide) (by decide) v2 hwp hwp2) rfl rfl) (fc_of (fl_store (by omega) (by omega) hS hU) rfl rfl) (by rw [hhi]; exact hS A X Y S p 4096 hi)
theorem walk_turn [Door] (o : Nat) (ho : o < 256) (B a A X Y S P PC : Int) (ha : 0 ≤ a ∧ a ≤ 65535) (hP : Byt P) (hm : modeO o = 6) (hk : kindO o = 3) {V : Int → Int → Int → Int → Int → Int → Int} {F : RdF} (hT : TnOk (nameO o) V F) : ACalls Tryd.prog 3 [inV o B a A X Y S P PC] [] fun r _ => r = .bool true := by
  have hO := cd_of o ho rfl hm hk
  have hci := cln_idem hP
  obtain ⟨p, hp⟩ : ∃ p, clnF P = p := ⟨_, rfl⟩
  rw [hp] at hci
  have hp1 : bits .or .u8 (bits .andNot .u8 P 16) 32 = p := hp
  have hr := Int.tmod_lt_of_pos a (show (0 : Int) < 3584 by decide)
  have hr0 := Int.tmod_nonneg 3584 ha.1
  have hw : IntKind.u16.wrap (4352 + a.tmod 3584) = 4352 + a.tmod 3584 := wrap16 (by omega) (by omega)
  obtain ⟨pl, hpl⟩ : ∃ pl, 4352 + a.tmod 3584 = pl := ⟨_, rfl⟩
  rw [hpl] at hw
  have l0 : 4352 ≤ pl := by omega
  have l1 : pl < 7936 := by omega
  have hwd := word_all ⟨(pl - 4352).toNat, by omega⟩
  have hcast : 4352 + (((pl - 4352).toNat : Nat) : Int) = pl := by omega
  simp only [hcast] at hwd
  obtain ⟨lo, hlo⟩ : ∃ lo, IntKind.u8.wrap pl = lo := ⟨_, rfl⟩
  obtain ⟨hi, hhi⟩ : ∃ hi, IntKind.u8.wrap (pl.fdiv (2 ^ min (8 : Int).toNat IntKind.u16.bits)) = hi := ⟨_, rfl⟩
  rw [hlo, hhi] at hwd
  have hwp : IntKind.u16.wrap (wordF lo hi + IntKind.u16.wrap 0) = pl := by
    rw [hwd, show IntKind.u16.wrap 0 = 0 from by decide, Int.add_zero]; exact wrap16 (by omega) (by omega)
  have hwp2 : wordF (IntKind.u8.wrap pl) hi = pl := by rw [hlo]; exact hwd
  obtain ⟨mC, hmC⟩ : ∃ mC, updL (fun _ => 0) 4096 [(o : Int), lo, hi] = mC := ⟨_, rfl⟩
  obtain ⟨m, hm0⟩ : ∃ m, upd mC pl.toNat B = m := ⟨_, rfl⟩
  have v0 : m (4096 : Int).toNat = (o : Int) := by rw [← hm0, upd_other _ _ (by show 4096 ≠ pl.toNat; omega), ← hmC]; rfl
  have v1 : m ((4096 : Int) + 1).toNat = lo := by rw [← hm0, upd_other _ _ (by show 4097 ≠ pl.toNat; omega), ← hmC]; rfl
  have v2 : m ((4096 : Int) + 1 + 1).toNat = hi := by rw [← hm0, upd_other _ _ (by show 4098 ≠ pl.toNat; omega), ← hmC]; rfl
  have v3 : m pl.toNat = B := by rw [← hm0, upd_same]
  have kA := m_at A X Y S p 4096
  rw [hci] at kA
  exact mem_turn (mC := mC) (mL := m) (mL5 := upd m pl.toNat B) (mL6 := upd (upd m pl.toNat B) pl.toNat (V A X Y S p B))  runs_ok hO hp1 (by rw [hpl]; exact hw) (by omega) (by omega) hlo hhi rfl (by rw [hmC]) rfl (by rw [hm0]) rfl rfl rfl kA (cp_ok _ _ _ _ _ _ _ _ _ _ _ _ _ _ _) (cp_ok _ _ _ _ _ _ _ _ _ _ _ _ _ _ _) rfl (cp_ok _ _ _ _ _ _ _ _ _ _ _ _ _ _ _) rfl (cp_ok _ _ _ _ _ _ _ _ _ _ _ _ _ _ _) rfl (cp_ok _ _ _ _ _ _ _ _ _ _ _ _ _ _ _) rfl (cp_ok _ _ _ _ _ _ _ _ _ _ _ _ _ _ _) rfl (cp_ok _ _ _ _ _ _ _ _ _ _ _ _ _ _ _) (fc_of (fl_fetch3x6 (by decide) (by decide) v0 hO) rfl rfl) (fc_of (fl_lower (by decide) (by decide) v1) rfl rfl) (fc_of (fl_upper3 (by decide) (by decide) v2 hwp hwp2) rfl rfl) (fc_of (fl_load3 (by omega) (by omega) v3) rfl rfl) (fc_of (fl_again (by omega) (by omega)) rfl rfl) (fc_of (fl_put (by omega) (by omega) hT) rfl rfl) (hT A X Y S p 4096 B) (rg_ok _ _ _ _ _ _ _ _ _ _ _ _ _ _ _)
theorem walk_memory [Door] (o' B a A X Y S P PC : Int) (ho' : Byt o') (ha : 0 ≤ a ∧ a ≤ 65535) (hP : Byt P) : ACalls Tryd.prog 3 [inV o' B a A X Y S P PC] [] fun r _ => r = .bool true := by
  obtain ⟨k, rfl⟩ := fin_of ho'.1 ho'.2
  have hO : CdOk (k.val : Int) (nameO k.val) (modeO k.val) (kindO k.val) (knownB k.val (nameO k.val)) := of_a k.val k.isLt []
  by_cases hm : modeO k.val = 6
  · by_cases h1 : kindO k.val = 1
    · obtain ⟨F, hR⟩ := rdN_ex (any_mem (rdN_all k hm h1))
      exact walk_read k.val k.isLt B a A X Y S P PC ha hP hm h1 hR
    · by_cases h2 : kindO k.val = 2
      · obtain ⟨V, hS, hU⟩ := stN_ex (any_mem (stN_all k hm h2))
        exact walk_store k.val k.isLt B a A X Y S P PC ha hP hm h2 hS hU
      · by_cases h3 : kindO k.val = 3
        · obtain ⟨V, F, hT⟩ := tnN_ex (any_mem (tnN_all k hm h3))
          exact walk_turn k.val k.isLt B a A X Y S P PC ha hP hm h3 hT
        · exact mem_other2 runs_ok hO (by simp [hm]) (by simp [h1]) (by simp [h2]) (by simp [h3])
  · exact mem_other1 runs_ok hO (by simp [hm])
end Go.Proofs
