/-
  The cycles, one by one.
-/
import Derived.Test.YtmdiokmkokjpiaaDoorQgF
set_option linter.all false
set_option linter.unusedVariables false
set_option linter.unusedSimpArgs false
set_option linter.unnecessarySimpa false
set_option linter.unusedSectionVars false
namespace Go.Proofs
open Go.Aw
variable [Base]
set_option maxRecDepth 100000
set_option maxHeartbeats 8000000
theorem cp_ok (A X Y S P PC s op : Int) (nm : ByteArray) (md kd : Int) (kn : Bool) (pl wr b : Int) : CpOk (cpu A X Y S P PC s op nm md kd kn pl wr b) s :=
  ⟨List.all_eq_true.1 (show (cpu A X Y S P PC s op nm md kd kn pl wr b).all flatV = true from rfl), rfl⟩
theorem cd_of [Door] (o : Nat) (ho : o < 256) {nm : ByteArray} {md kd : Int} (h1 : nameO o = nm) (h2 : modeO o = md) (h3 : kindO o = kd) : CdOk o nm md kd (knownB o nm) := by
  subst h1; subst h2; subst h3
  exact of_a o ho []
theorem adr_lt {p : Int} (h0 : 0 ≤ p) (h1 : p < 8192) : adrF p = p := by
  unfold adrF
  have := and_mask .u16 p 13 (by decide)
  rw [show (2 : Int) ^ 13 - 1 = 8191 from by decide] at this
  rw [this]; exact Int.emod_eq_of_lt h0 (by simpa using h1)
theorem fin_of {S : Int} (h0 : 0 ≤ S) (h1 : S ≤ 255) : ∃ k : Fin 256, S = (k.val : Int) := ⟨⟨S.toNat, by omega⟩, by simp; omega⟩
theorem stk_eq {S : Int} (h0 : 0 ≤ S) (h1 : S ≤ 255) : stkF S = 256 + S := by
  obtain ⟨k, rfl⟩ := fin_of h0 h1
  have h : ∀ k : Fin 256, stkF (k.val : Int) = 256 + (k.val : Int) := by decide +kernel
  exact h k
def Byt (S : Int) : Prop := 0 ≤ S ∧ S ≤ 255
theorem pi_pcE {c : List Value} {q : Int} (h0 : 0 ≤ q) (h1 : q < 8191) (h : PiOk c (adrF q) false 0) : PiOk c q false 0 := by rwa [adr_lt h0 (by omega)] at h
theorem pi_skE {c : List Value} {S : Int} {w : Bool} {d : Int} (h : PiOk c (stkF S) w d) (hS : Byt S) : PiOk c (256 + S) w d := by rwa [stk_eq hS.1 hS.2] at h
theorem pi_adE {c : List Value} {p : Int} {w : Bool} {d : Int} (h : PiOk c (adrF p) w d) (h0 : 0 ≤ p) (h1 : p < 8192) : PiOk c p w d := by rwa [adr_lt h0 h1] at h
theorem inc16 {q : Int} (h0 : 0 ≤ q) (h1 : q < 8191) : IntKind.u16.wrap (q + 1) = q + 1 := wrap16 (by omega) (by omega)
section
variable {A X Y S P q op : Int} {nm : ByteArray} {md kd : Int} {kn : Bool} {pl wr b : Int} {m : Nat → Int}
theorem fl_fetch1x6 (h0 : 0 ≤ q) (h1 : q < 8191) {v : Int} {nm2 : ByteArray} {kn2 : Bool} (hv : m q.toNat = v) (hO : CdOk v nm2 6 1 kn2) : FlOk (cpu A X Y S P q 0 op nm md kd kn pl wr b) m (q) false (0) (cpu A X Y S P (q + 1) 13 v nm2 6 1 kn2 pl wr b) m :=
  fl_rd (cp_ok _ _ _ _ _ _ _ _ _ _ _ _ _ _ _).fl (cp_ok _ _ _ _ _ _ _ _ _ _ _ _ _ _ _).fl h0 (by omega) (pi_pcE h0 h1 pi_fetch) (by rw [hv, ← inc16 h0 h1]; exact ck_fetch1x6 v hO)
theorem fl_fetch2x6 (h0 : 0 ≤ q) (h1 : q < 8191) {v : Int} {nm2 : ByteArray} {kn2 : Bool} (hv : m q.toNat = v) (hO : CdOk v nm2 6 2 kn2) : FlOk (cpu A X Y S P q 0 op nm md kd kn pl wr b) m (q) false (0) (cpu A X Y S P (q + 1) 13 v nm2 6 2 kn2 pl wr b) m :=
  fl_rd (cp_ok _ _ _ _ _ _ _ _ _ _ _ _ _ _ _).fl (cp_ok _ _ _ _ _ _ _ _ _ _ _ _ _ _ _).fl h0 (by omega) (pi_pcE h0 h1 pi_fetch) (by rw [hv, ← inc16 h0 h1]; exact ck_fetch2x6 v hO)
theorem fl_fetch3x6 (h0 : 0 ≤ q) (h1 : q < 8191) {v : Int} {nm2 : ByteArray} {kn2 : Bool} (hv : m q.toNat = v) (hO : CdOk v nm2 6 3 kn2) : FlOk (cpu A X Y S P q 0 op nm md kd kn pl wr b) m (q) false (0) (cpu A X Y S P (q + 1) 13 v nm2 6 3 kn2 pl wr b) m :=
  fl_rd (cp_ok _ _ _ _ _ _ _ _ _ _ _ _ _ _ _).fl (cp_ok _ _ _ _ _ _ _ _ _ _ _ _ _ _ _).fl h0 (by omega) (pi_pcE h0 h1 pi_fetch) (by rw [hv, ← inc16 h0 h1]; exact ck_fetch3x6 v hO)
theorem fl_fetch3x3 (h0 : 0 ≤ q) (h1 : q < 8191) {v : Int} {nm2 : ByteArray} {kn2 : Bool} (hv : m q.toNat = v) (hO : CdOk v nm2 3 3 kn2) : FlOk (cpu A X Y S P q 0 op nm md kd kn pl wr b) m (q) false (0) (cpu A X Y S P (q + 1) 11 v nm2 3 3 kn2 pl wr b) m :=
  fl_rd (cp_ok _ _ _ _ _ _ _ _ _ _ _ _ _ _ _).fl (cp_ok _ _ _ _ _ _ _ _ _ _ _ _ _ _ _).fl h0 (by omega) (pi_pcE h0 h1 pi_fetch) (by rw [hv, ← inc16 h0 h1]; exact ck_fetch3x3 v hO)
theorem fl_fetch5x0 (h0 : 0 ≤ q) (h1 : q < 8191) {v : Int} {nm2 : ByteArray} {kn2 : Bool} (hv : m q.toNat = v) (hO : CdOk v nm2 0 5 kn2) : FlOk (cpu A X Y S P q 0 op nm md kd kn pl wr b) m (q) false (0) (cpu A X Y S P (q + 1) 27 v nm2 0 5 kn2 pl wr b) m :=
  fl_rd (cp_ok _ _ _ _ _ _ _ _ _ _ _ _ _ _ _).fl (cp_ok _ _ _ _ _ _ _ _ _ _ _ _ _ _ _).fl h0 (by omega) (pi_pcE h0 h1 pi_fetch) (by rw [hv, ← inc16 h0 h1]; exact ck_fetch5x0 v hO)
theorem fl_fetch6x0 (h0 : 0 ≤ q) (h1 : q < 8191) {v : Int} {nm2 : ByteArray} {kn2 : Bool} (hv : m q.toNat = v) (hO : CdOk v nm2 0 6 kn2) : FlOk (cpu A X Y S P q 0 op nm md kd kn pl wr b) m (q) false (0) (cpu A X Y S P (q + 1) 29 v nm2 0 6 kn2 pl wr b) m :=
  fl_rd (cp_ok _ _ _ _ _ _ _ _ _ _ _ _ _ _ _).fl (cp_ok _ _ _ _ _ _ _ _ _ _ _ _ _ _ _).fl h0 (by omega) (pi_pcE h0 h1 pi_fetch) (by rw [hv, ← inc16 h0 h1]; exact ck_fetch6x0 v hO)
theorem fl_fetch8x6 (h0 : 0 ≤ q) (h1 : q < 8191) {v : Int} {nm2 : ByteArray} {kn2 : Bool} (hv : m q.toNat = v) (hO : CdOk v nm2 6 8 kn2) : FlOk (cpu A X Y S P q 0 op nm md kd kn pl wr b) m (q) false (0) (cpu A X Y S P (q + 1) 36 v nm2 6 8 kn2 pl wr b) m :=
  fl_rd (cp_ok _ _ _ _ _ _ _ _ _ _ _ _ _ _ _).fl (cp_ok _ _ _ _ _ _ _ _ _ _ _ _ _ _ _).fl h0 (by omega) (pi_pcE h0 h1 pi_fetch) (by rw [hv, ← inc16 h0 h1]; exact ck_fetch8x6 v hO)
theorem fl_fetch9x0 (h0 : 0 ≤ q) (h1 : q < 8191) {v : Int} {nm2 : ByteArray} {kn2 : Bool} (hv : m q.toNat = v) (hO : CdOk v nm2 0 9 kn2) : FlOk (cpu A X Y S P q 0 op nm md kd kn pl wr b) m (q) false (0) (cpu A X Y S P (q + 1) 41 v nm2 0 9 kn2 pl wr b) m :=
  fl_rd (cp_ok _ _ _ _ _ _ _ _ _ _ _ _ _ _ _).fl (cp_ok _ _ _ _ _ _ _ _ _ _ _ _ _ _ _).fl h0 (by omega) (pi_pcE h0 h1 pi_fetch) (by rw [hv, ← inc16 h0 h1]; exact ck_fetch9x0 v hO)
theorem fl_lower (h0 : 0 ≤ q) (h1 : q < 8191) {v : Int} (hv : m q.toNat = v) : FlOk (cpu A X Y S P q 13 op nm md kd kn pl wr b) m (q) false (0) (cpu A X Y S P (q + 1) 14 op nm md kd kn pl wr v) m :=
  fl_rd (cp_ok _ _ _ _ _ _ _ _ _ _ _ _ _ _ _).fl (cp_ok _ _ _ _ _ _ _ _ _ _ _ _ _ _ _).fl h0 (by omega) (pi_pcE h0 h1 pi_lower) (by rw [hv, ← inc16 h0 h1]; exact ck_lower v)
theorem fl_upper1 (h0 : 0 ≤ q) (h1 : q < 8191) {v p : Int} (hv : m q.toNat = v) (hp : IntKind.u16.wrap (wordF b v + IntKind.u16.wrap 0) = p) (hp2 : wordF (IntKind.u8.wrap p) v = p) : FlOk (cpu A X Y S P q 14 op nm 6 1 kn pl wr b) m (q) false (0) (cpu A X Y S P (q + 1) 20 op nm 6 1 kn p p b) m :=
  fl_rd (cp_ok _ _ _ _ _ _ _ _ _ _ _ _ _ _ _).fl (cp_ok _ _ _ _ _ _ _ _ _ _ _ _ _ _ _).fl h0 (by omega) (pi_pcE h0 h1 pi_upper) (by have := ck_upper1 (A := A) (X := X) (Y := Y) (S := S) (P := P) (PC := q) (op := op) (nm := nm) (kn := kn) (pl := pl) (wr := wr) (b := b) v; rw [hp, hp2, inc16 h0 h1] at this; rw [hv]; exact this)
theorem fl_upper2 (h0 : 0 ≤ q) (h1 : q < 8191) {v p : Int} (hv : m q.toNat = v) (hp : IntKind.u16.wrap (wordF b v + IntKind.u16.wrap 0) = p) (hp2 : wordF (IntKind.u8.wrap p) v = p) : FlOk (cpu A X Y S P q 14 op nm 6 2 kn pl wr b) m (q) false (0) (cpu A X Y S P (q + 1) 21 op nm 6 2 kn p p b) m :=
  fl_rd (cp_ok _ _ _ _ _ _ _ _ _ _ _ _ _ _ _).fl (cp_ok _ _ _ _ _ _ _ _ _ _ _ _ _ _ _).fl h0 (by omega) (pi_pcE h0 h1 pi_upper) (by have := ck_upper2 (A := A) (X := X) (Y := Y) (S := S) (P := P) (PC := q) (op := op) (nm := nm) (kn := kn) (pl := pl) (wr := wr) (b := b) v; rw [hp, hp2, inc16 h0 h1] at this; rw [hv]; exact this)
theorem fl_upper3 (h0 : 0 ≤ q) (h1 : q < 8191) {v p : Int} (hv : m q.toNat = v) (hp : IntKind.u16.wrap (wordF b v + IntKind.u16.wrap 0) = p) (hp2 : wordF (IntKind.u8.wrap p) v = p) : FlOk (cpu A X Y S P q 14 op nm 6 3 kn pl wr b) m (q) false (0) (cpu A X Y S P (q + 1) 20 op nm 6 3 kn p p b) m :=
  fl_rd (cp_ok _ _ _ _ _ _ _ _ _ _ _ _ _ _ _).fl (cp_ok _ _ _ _ _ _ _ _ _ _ _ _ _ _ _).fl h0 (by omega) (pi_pcE h0 h1 pi_upper) (by have := ck_upper3 (A := A) (X := X) (Y := Y) (S := S) (P := P) (PC := q) (op := op) (nm := nm) (kn := kn) (pl := pl) (wr := wr) (b := b) v; rw [hp, hp2, inc16 h0 h1] at this; rw [hv]; exact this)
theorem fl_load1 (g0 : 0 ≤ pl) (g1 : pl < 8192) {F : RdF} {v : Int} (hv : m pl.toNat = v) (hR : RdOk nm F) : FlOk (cpu A X Y S P q 20 op nm md 1 kn pl wr b) m (pl) false (0) (cpu (F.a A X Y S P v) (F.x A X Y S P v) (F.y A X Y S P v) (F.s A X Y S P v) (F.p A X Y S P v) q 0 op nm md 1 kn pl wr v) m :=
  fl_rd (cp_ok _ _ _ _ _ _ _ _ _ _ _ _ _ _ _).fl (cp_ok _ _ _ _ _ _ _ _ _ _ _ _ _ _ _).fl g0 g1 (pi_adE pi_load g0 g1) (by rw [hv]; exact ck_load1 v hR)
theorem fl_load3 (g0 : 0 ≤ pl) (g1 : pl < 8192) {v : Int} (hv : m pl.toNat = v) : FlOk (cpu A X Y S P q 20 op nm md 3 kn pl wr b) m (pl) false (0) (cpu A X Y S P q 22 op nm md 3 kn pl wr v) m :=
  fl_rd (cp_ok _ _ _ _ _ _ _ _ _ _ _ _ _ _ _).fl (cp_ok _ _ _ _ _ _ _ _ _ _ _ _ _ _ _).fl g0 g1 (pi_adE pi_load g0 g1) (by rw [hv]; exact ck_load3 v)
theorem fl_store (g0 : 0 ≤ pl) (g1 : pl < 8192) {V : Int → Int → Int → Int} (hS : StOk nm V) (hU : UnOk nm) : FlOk (cpu A X Y S P q 21 op nm md kd kn pl wr b) m (pl) true (V A X Y) (cpu A X Y S P q 0 op nm md kd kn pl wr b) (upd m pl.toNat (V A X Y)) :=
  fl_wr (cp_ok _ _ _ _ _ _ _ _ _ _ _ _ _ _ _).fl (cp_ok _ _ _ _ _ _ _ _ _ _ _ _ _ _ _).fl g0 g1 (pi_adE (pi_store hS hU) g0 g1) (ck_store _ hS hU)
theorem fl_again (g0 : 0 ≤ pl) (g1 : pl < 8192)  : FlOk (cpu A X Y S P q 22 op nm md kd kn pl wr b) m (pl) true (b) (cpu A X Y S P q 23 op nm md kd kn pl wr b) (upd m pl.toNat b) :=
  fl_wr (cp_ok _ _ _ _ _ _ _ _ _ _ _ _ _ _ _).fl (cp_ok _ _ _ _ _ _ _ _ _ _ _ _ _ _ _).fl g0 g1 (pi_adE pi_again g0 g1) (ck_again _)
theorem fl_put (g0 : 0 ≤ pl) (g1 : pl < 8192) {V : Int → Int → Int → Int → Int → Int → Int} {F : RdF} (hT : TnOk nm V F) : FlOk (cpu A X Y S P q 23 op nm md kd kn pl wr b) m (pl) true (V A X Y S P b) (cpu (F.a A X Y S P b) (F.x A X Y S P b) (F.y A X Y S P b) (F.s A X Y S P b) (F.p A X Y S P b) q 0 op nm md kd kn pl wr b) (upd m pl.toNat (V A X Y S P b)) :=
  fl_wr (cp_ok _ _ _ _ _ _ _ _ _ _ _ _ _ _ _).fl (cp_ok _ _ _ _ _ _ _ _ _ _ _ _ _ _ _).fl g0 g1 (pi_adE (pi_put hT) g0 g1) (ck_put _ hT)
theorem fl_push1 (h0 : 0 ≤ q) (h1 : q < 8191)  : FlOk (cpu A X Y S P q 27 op nm md kd kn pl wr b) m (q) false (0) (cpu A X Y S P q 28 op nm md kd kn pl wr b) m :=
  fl_rd (cp_ok _ _ _ _ _ _ _ _ _ _ _ _ _ _ _).fl (cp_ok _ _ _ _ _ _ _ _ _ _ _ _ _ _ _).fl h0 (by omega) (pi_pcE h0 h1 pi_push1) (ck_push1 _)
theorem fl_push2 (hS : Byt S) (hn : strEq nm ⟨#[80, 72, 80]⟩ = false) : FlOk (cpu A X Y S P q 28 op nm md kd kn pl wr b) m (256 + S) true (A) (cpu A X Y (IntKind.u8.wrap (S - 1)) P q 0 op nm md kd kn pl wr b) (upd m (256 + S).toNat A) :=
  fl_wr (cp_ok _ _ _ _ _ _ _ _ _ _ _ _ _ _ _).fl (cp_ok _ _ _ _ _ _ _ _ _ _ _ _ _ _ _).fl (by have := hS.1; omega) (by have := hS.2; omega) (pi_skE (pi_push2 hn) hS) (ck_push2 _)
theorem fl_push2p (hS : Byt S) (hn : strEq nm ⟨#[80, 72, 80]⟩ = true) : FlOk (cpu A X Y S P q 28 op nm md kd kn pl wr b) m (256 + S) true (bits .or .u8 P 16) (cpu A X Y (IntKind.u8.wrap (S - 1)) P q 0 op nm md kd kn pl wr b) (upd m (256 + S).toNat (bits .or .u8 P 16)) :=
  fl_wr (cp_ok _ _ _ _ _ _ _ _ _ _ _ _ _ _ _).fl (cp_ok _ _ _ _ _ _ _ _ _ _ _ _ _ _ _).fl (by have := hS.1; omega) (by have := hS.2; omega) (pi_skE (pi_push2p hn) hS) (ck_push2 _)
theorem fl_pull1 (h0 : 0 ≤ q) (h1 : q < 8191)  : FlOk (cpu A X Y S P q 29 op nm md kd kn pl wr b) m (q) false (0) (cpu A X Y S P q 30 op nm md kd kn pl wr b) m :=
  fl_rd (cp_ok _ _ _ _ _ _ _ _ _ _ _ _ _ _ _).fl (cp_ok _ _ _ _ _ _ _ _ _ _ _ _ _ _ _).fl h0 (by omega) (pi_pcE h0 h1 pi_pull1) (ck_pull1 _)
theorem fl_pull2 (hS : Byt S)  : FlOk (cpu A X Y S P q 30 op nm md kd kn pl wr b) m (256 + S) false (0) (cpu A X Y (IntKind.u8.wrap (S + 1)) P q 31 op nm md kd kn pl wr b) m :=
  fl_rd (cp_ok _ _ _ _ _ _ _ _ _ _ _ _ _ _ _).fl (cp_ok _ _ _ _ _ _ _ _ _ _ _ _ _ _ _).fl (by have := hS.1; omega) (by have := hS.2; omega) (pi_skE pi_pull2 hS) (ck_pull2 _)
theorem fl_pull3 (hS : Byt S) {v : Int} (hv : m (256 + S).toNat = v) (hn : strEq nm ⟨#[80, 76, 80]⟩ = false) : FlOk (cpu A X Y S P q 31 op nm md kd kn pl wr b) m (256 + S) false (0) (cpu v X Y S (markF P v) q 0 op nm md kd kn pl wr b) m :=
  fl_rd (cp_ok _ _ _ _ _ _ _ _ _ _ _ _ _ _ _).fl (cp_ok _ _ _ _ _ _ _ _ _ _ _ _ _ _ _).fl (by have := hS.1; omega) (by have := hS.2; omega) (pi_skE pi_pull3 hS) (by rw [hv]; exact ck_pull3 v hn)
theorem fl_pull3p (hS : Byt S) {v : Int} (hv : m (256 + S).toNat = v) (hn : strEq nm ⟨#[80, 76, 80]⟩ = true) : FlOk (cpu A X Y S P q 31 op nm md kd kn pl wr b) m (256 + S) false (0) (cpu A X Y S (clnF v) q 0 op nm md kd kn pl wr b) m :=
  fl_rd (cp_ok _ _ _ _ _ _ _ _ _ _ _ _ _ _ _).fl (cp_ok _ _ _ _ _ _ _ _ _ _ _ _ _ _ _).fl (by have := hS.1; omega) (by have := hS.2; omega) (pi_skE pi_pull3 hS) (by rw [hv]; exact ck_pull3p v hn)
theorem fl_call1 (h0 : 0 ≤ q) (h1 : q < 8191) {v : Int} (hv : m q.toNat = v) : FlOk (cpu A X Y S P q 36 op nm md kd kn pl wr b) m (q) false (0) (cpu A X Y S P (q + 1) 37 op nm md kd kn pl wr v) m :=
  fl_rd (cp_ok _ _ _ _ _ _ _ _ _ _ _ _ _ _ _).fl (cp_ok _ _ _ _ _ _ _ _ _ _ _ _ _ _ _).fl h0 (by omega) (pi_pcE h0 h1 pi_call1) (by rw [hv, ← inc16 h0 h1]; exact ck_call1 v)
theorem fl_call2 (hS : Byt S)  : FlOk (cpu A X Y S P q 37 op nm md kd kn pl wr b) m (256 + S) false (0) (cpu A X Y S P q 38 op nm md kd kn pl wr b) m :=
  fl_rd (cp_ok _ _ _ _ _ _ _ _ _ _ _ _ _ _ _).fl (cp_ok _ _ _ _ _ _ _ _ _ _ _ _ _ _ _).fl (by have := hS.1; omega) (by have := hS.2; omega) (pi_skE pi_call2 hS) (ck_call2 _)
theorem fl_call3 (hS : Byt S)  : FlOk (cpu A X Y S P q 38 op nm md kd kn pl wr b) m (256 + S) true (IntKind.u8.wrap (q.fdiv (2 ^ min (8 : Int).toNat IntKind.u16.bits))) (cpu A X Y (IntKind.u8.wrap (S - 1)) P q 39 op nm md kd kn pl wr b) (upd m (256 + S).toNat (IntKind.u8.wrap (q.fdiv (2 ^ min (8 : Int).toNat IntKind.u16.bits)))) :=
  fl_wr (cp_ok _ _ _ _ _ _ _ _ _ _ _ _ _ _ _).fl (cp_ok _ _ _ _ _ _ _ _ _ _ _ _ _ _ _).fl (by have := hS.1; omega) (by have := hS.2; omega) (pi_skE pi_call3 hS) (ck_call3 _)
theorem fl_call4 (hS : Byt S)  : FlOk (cpu A X Y S P q 39 op nm md kd kn pl wr b) m (256 + S) true (IntKind.u8.wrap q) (cpu A X Y (IntKind.u8.wrap (S - 1)) P q 40 op nm md kd kn pl wr b) (upd m (256 + S).toNat (IntKind.u8.wrap q)) :=
  fl_wr (cp_ok _ _ _ _ _ _ _ _ _ _ _ _ _ _ _).fl (cp_ok _ _ _ _ _ _ _ _ _ _ _ _ _ _ _).fl (by have := hS.1; omega) (by have := hS.2; omega) (pi_skE pi_call4 hS) (ck_call4 _)
theorem fl_call5 (h0 : 0 ≤ q) (h1 : q < 8191) {v p : Int} (hv : m q.toNat = v) (hp : wordF b v = p) : FlOk (cpu A X Y S P q 40 op nm md kd kn pl wr b) m (q) false (0) (cpu A X Y S P p 0 op nm md kd kn pl wr b) m :=
  fl_rd (cp_ok _ _ _ _ _ _ _ _ _ _ _ _ _ _ _).fl (cp_ok _ _ _ _ _ _ _ _ _ _ _ _ _ _ _).fl h0 (by omega) (pi_pcE h0 h1 pi_call5) (by rw [hv, ← hp]; exact ck_call5 v)
theorem fl_back1 (h0 : 0 ≤ q) (h1 : q < 8191)  : FlOk (cpu A X Y S P q 41 op nm md kd kn pl wr b) m (q) false (0) (cpu A X Y S P q 42 op nm md kd kn pl wr b) m :=
  fl_rd (cp_ok _ _ _ _ _ _ _ _ _ _ _ _ _ _ _).fl (cp_ok _ _ _ _ _ _ _ _ _ _ _ _ _ _ _).fl h0 (by omega) (pi_pcE h0 h1 pi_back1) (ck_back1 _)
theorem fl_back2 (hS : Byt S)  : FlOk (cpu A X Y S P q 42 op nm md kd kn pl wr b) m (256 + S) false (0) (cpu A X Y (IntKind.u8.wrap (S + 1)) P q 43 op nm md kd kn pl wr b) m :=
  fl_rd (cp_ok _ _ _ _ _ _ _ _ _ _ _ _ _ _ _).fl (cp_ok _ _ _ _ _ _ _ _ _ _ _ _ _ _ _).fl (by have := hS.1; omega) (by have := hS.2; omega) (pi_skE pi_back2 hS) (ck_back2 _)
theorem fl_back3 (hS : Byt S) {v : Int} (hv : m (256 + S).toNat = v) : FlOk (cpu A X Y S P q 43 op nm md kd kn pl wr b) m (256 + S) false (0) (cpu A X Y (IntKind.u8.wrap (S + 1)) P q 44 op nm md kd kn pl wr v) m :=
  fl_rd (cp_ok _ _ _ _ _ _ _ _ _ _ _ _ _ _ _).fl (cp_ok _ _ _ _ _ _ _ _ _ _ _ _ _ _ _).fl (by have := hS.1; omega) (by have := hS.2; omega) (pi_skE pi_back3 hS) (by rw [hv]; exact ck_back3 v)
theorem fl_back4 (hS : Byt S) {v p : Int} (hv : m (256 + S).toNat = v) (hp : wordF b v = p) : FlOk (cpu A X Y S P q 44 op nm md kd kn pl wr b) m (256 + S) false (0) (cpu A X Y S P p 45 op nm md kd kn pl wr b) m :=
  fl_rd (cp_ok _ _ _ _ _ _ _ _ _ _ _ _ _ _ _).fl (cp_ok _ _ _ _ _ _ _ _ _ _ _ _ _ _ _).fl (by have := hS.1; omega) (by have := hS.2; omega) (pi_skE pi_back4 hS) (by rw [hv, ← hp]; exact ck_back4 v)
theorem fl_back5 (h0 : 0 ≤ q) (h1 : q < 8191)  : FlOk (cpu A X Y S P q 45 op nm md kd kn pl wr b) m (q) false (0) (cpu A X Y S P (q + 1) 0 op nm md kd kn pl wr b) m :=
  fl_rd (cp_ok _ _ _ _ _ _ _ _ _ _ _ _ _ _ _).fl (cp_ok _ _ _ _ _ _ _ _ _ _ _ _ _ _ _).fl h0 (by omega) (pi_pcE h0 h1 pi_back5) (by rw [← inc16 h0 h1]; exact ck_back5 _)
end
theorem m_new (A X Y S P PC : Int) : ACalls Tryd.prog 22 [rgV A X Y S P PC] [] fun r H => r = .pointer (some ⟨0, 0, none⟩) ∧ H = [.cells (cpu A X Y S (clnF P) PC 2 0 .empty 0 0 false 0 0 0) 60] := by
  refine ACalls.codeN tabOk h22 Tryd.func22 Tryd.call22 ok22 [1] ?_
  conv => whnf
  refine ACalls.code tabOk h51 Tryd.func51 Tryd.call51 ok51 ?_
  conv => whnf
  exact ⟨rfl, rfl⟩
theorem m_at (A X Y S P PC : Int) : ACalls Tryd.prog 7 [rgV A X Y S P PC, .bool false] [] fun r H => r = .pointer (some ⟨0, 0, none⟩) ∧ H = [.cells (cpu A X Y S (clnF P) PC 0 0 .empty 0 0 false 0 0 0) 60] := by
  refine ACalls.codeN tabOk h7 Tryd.func7 Tryd.call7 ok7 [1] ?_
  conv => whnf
  refine ACalls.useE (m_new _ _ _ _ _ _) [] rfl (by (conv => whnf); try rfl) (by (conv => whnf); try rfl) ?_
  conv => whnf
  exact ⟨rfl, rfl⟩
end Go.Proofs
