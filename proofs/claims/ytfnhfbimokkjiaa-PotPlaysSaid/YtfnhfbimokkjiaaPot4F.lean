/-
  Walks through the functions of the program, by contract.
-/
import Derived.Test.YtfnhfbimokkjiaaPot3F
set_option linter.all false
set_option linter.unusedVariables false
set_option linter.unusedSimpArgs false
set_option linter.unnecessarySimpa false
namespace Go.Proofs
open Go.Aw
set_option maxRecDepth 100000
set_option maxHeartbeats 8000000

theorem pot_set (v0 v1 v2 v3 ch : Int) (du h0 l0 h1 l1 la : Bool) (w0 w1 w2 w3 w4 w5 w6 w7 w8 w9 w10 : Int) : ACalls Try.prog 19 [.pointer (some ⟨0, 0, none⟩), .agg #[.int .i64 w0, .int .i64 w1, .int .i64 w2, .int .i64 w3, .int .i64 w4, .int .i64 w5, .int .i64 w6, .int .i64 w7, .int .i64 w8, .int .i64 w9, .int .i64 w10]] [PS.blk ⟨v0, v1, v2, v3, ch, du, h0, l0, h1, l1, la⟩]
    fun r H => r = .int .i64 (bif okP w0 w1 w2 w3 w4 w5 w6 w7 w8 w9 w10 then 0 else 6) ∧ H = [PS.blk (bif okP w0 w1 w2 w3 w4 w5 w6 w7 w8 w9 w10 then PS.of w0 w1 w2 w3 w4 w5 w6 w7 w8 w9 w10 else ⟨v0, v1, v2, v3, ch, du, h0, l0, h1, l1, la⟩)] := by
  cases h : okP w0 w1 w2 w3 w4 w5 w6 w7 w8 w9 w10 with
  | true => exact pot_set_ok v0 v1 v2 v3 ch du h0 l0 h1 l1 la w0 w1 w2 w3 w4 w5 w6 w7 w8 w9 w10 h
  | false => exact pot_set_bad v0 v1 v2 v3 ch du h0 l0 h1 l1 la w0 w1 w2 w3 w4 w5 w6 w7 w8 w9 w10 h

structure PS.Ok (s : PS) : Prop where
  v : (0 ≤ s.v0 ∧ s.v0 ≤ 255) ∧ (0 ≤ s.v1 ∧ s.v1 ≤ 255) ∧ (0 ≤ s.v2 ∧ s.v2 ≤ 255) ∧ (0 ≤ s.v3 ∧ s.v3 ≤ 255)
  ch : 0 ≤ s.ch ∧ s.ch ≤ 511
  f0 : (!s.la || (s.l0 && s.h0)) = s.l0
  f1 : (!s.la || (s.l1 && s.h1)) = s.l1
theorem PS.Ok.new : PS.Ok ⟨0, 0, 0, 0, 0, false, true, true, true, true, false⟩ := ⟨by decide, by decide, rfl, rfl⟩
theorem see_see (la l h : Bool) : (!la || ((!la || (l && h)) && h)) = (!la || (l && h)) := by cases la <;> cases l <;> cases h <;> rfl
theorem PS.Ok.see {s : PS} (hv : (0 ≤ s.v0 ∧ s.v0 ≤ 255) ∧ (0 ≤ s.v1 ∧ s.v1 ≤ 255) ∧ (0 ≤ s.v2 ∧ s.v2 ≤ 255) ∧ (0 ≤ s.v3 ∧ s.v3 ≤ 255)) (hc : 0 ≤ s.ch ∧ s.ch ≤ 511) : s.see.Ok := ⟨hv, hc, see_see .., see_see ..⟩
theorem PS.Ok.inp {s : PS} (h : s.Ok) {n v : Int} (hv : 0 ≤ v ∧ v ≤ 255) : (s.inp n v).Ok := by
  obtain ⟨hv', hc, f0, f1⟩ := h
  unfold PS.inp
  split
  · exact ⟨⟨hv, hv'.2⟩, hc, f0, f1⟩
  · split
    · exact ⟨⟨hv'.1, hv, hv'.2.2⟩, hc, f0, f1⟩
    · split
      · exact ⟨⟨hv'.1, hv'.2.1, hv, hv'.2.2.2⟩, hc, f0, f1⟩
      · split
        · exact ⟨⟨hv'.1, hv'.2.1, hv'.2.2.1, hv⟩, hc, f0, f1⟩
        · split
          · exact PS.Ok.see hv' hc
          · split
            · exact PS.Ok.see hv' hc
            · exact ⟨hv', hc, f0, f1⟩
theorem PS.Ok.line {s : PS} (h : s.Ok) : s.line.Ok := by
  obtain ⟨hv', hc, f0, f1⟩ := h
  have ew : IntKind.i64.wrap (s.ch + 1) = s.ch + 1 := wrap64 (by omega) (by omega)
  unfold PS.line
  rw [ew]
  split
  · exact ⟨hv', hc, f0, f1⟩
  · refine ⟨hv', ?_, f0, f1⟩
    dsimp only
    split <;> omega
theorem PS.Ok.dump {s : PS} (h : s.Ok) (on : Bool) : (s.dump on).Ok := by
  obtain ⟨hv', hc, f0, f1⟩ := h
  refine ⟨hv', ?_, f0, f1⟩
  cases on
  · exact hc
  · exact ⟨Int.le_refl _, show (0 : Int) ≤ 511 by decide⟩
theorem PS.Ok.latch {s : PS} (h : s.Ok) (on : Bool) : (s.latch on).Ok := PS.Ok.see (s := { s with la := on }) h.v h.ch
theorem PS.Ok.of {w0 w1 w2 w3 w4 w5 w6 w7 w8 w9 w10 : Int} (h : okP w0 w1 w2 w3 w4 w5 w6 w7 w8 w9 w10 = true) : (PS.of w0 w1 w2 w3 w4 w5 w6 w7 w8 w9 w10).Ok := by
  have h' := (okP_iff ..).1 h
  obtain ⟨c0, c1, c2, c3, c4, c5, c6, c7, c8, c9, c10, c11, c12, c13, c14⟩ := h'
  refine ⟨⟨c0, c1, c2, c3⟩, c4, ?_, ?_⟩
  · have d8 : w8 = 0 ∨ w8 = 1 := by omega
    have d6 : w6 = 0 ∨ w6 = 1 := by omega
    have d9 : w9 = 0 ∨ w9 = 1 := by omega
    show (!(w8 == 1) || ((w9 == 1) && (w6 == 1))) = (w9 == 1)
    clear h
    rcases d8 with rfl | rfl <;> rcases d6 with rfl | rfl <;> rcases d9 with rfl | rfl <;> first | rfl | (exfalso; omega)
  · have d8 : w8 = 0 ∨ w8 = 1 := by omega
    have d6 : w7 = 0 ∨ w7 = 1 := by omega
    have d9 : w10 = 0 ∨ w10 = 1 := by omega
    show (!(w8 == 1) || ((w10 == 1) && (w7 == 1))) = (w10 == 1)
    clear h
    rcases d8 with rfl | rfl <;> rcases d6 with rfl | rfl <;> rcases d9 with rfl | rfl <;> first | rfl | (exfalso; omega)

abbrev ptKs : List CK := [.int .i64, .int .i64, .int .u8, .int .u16, .bool, .int .i64, .int .i64, .int .i64, .int .i64, .int .i64, .int .i64, .int .i64, .int .i64, .int .i64, .int .i64, .int .i64]
theorem pt_cells {cs : List Value} (h : FitsAll ptKs cs) : ∃ (k n v ln : Int) (on : Bool) (w0 w1 w2 w3 w4 w5 w6 w7 w8 w9 w10 : Int), cs = [.int .i64 k, .int .i64 n, .int .u8 v, .int .u16 ln, .bool on, .int .i64 w0, .int .i64 w1, .int .i64 w2, .int .i64 w3, .int .i64 w4, .int .i64 w5, .int .i64 w6, .int .i64 w7, .int .i64 w8, .int .i64 w9, .int .i64 w10] ∧ (0 ≤ v ∧ v ≤ 255) ∧ (0 ≤ ln ∧ ln ≤ 65535) := by
  obtain ⟨k, _, rfl, _, h⟩ := fits_int h
  obtain ⟨n, _, rfl, _, h⟩ := fits_int h
  obtain ⟨v, _, rfl, b1, h⟩ := fits_int h
  obtain ⟨ln, _, rfl, b2, h⟩ := fits_int h
  obtain ⟨on, _, rfl, g0⟩ := fits_bool h
  obtain ⟨w0, _, rfl, _, g1⟩ := fits_int g0
  obtain ⟨w1, _, rfl, _, g2⟩ := fits_int g1
  obtain ⟨w2, _, rfl, _, g3⟩ := fits_int g2
  obtain ⟨w3, _, rfl, _, g4⟩ := fits_int g3
  obtain ⟨w4, _, rfl, _, g5⟩ := fits_int g4
  obtain ⟨w5, _, rfl, _, g6⟩ := fits_int g5
  obtain ⟨w6, _, rfl, _, g7⟩ := fits_int g6
  obtain ⟨w7, _, rfl, _, g8⟩ := fits_int g7
  obtain ⟨w8, _, rfl, _, g9⟩ := fits_int g8
  obtain ⟨w9, _, rfl, _, g10⟩ := fits_int g9
  obtain ⟨w10, _, rfl, _, g11⟩ := fits_int g10
  obtain rfl := fits_nil g11
  exact ⟨k, n, v, ln, on, w0, w1, w2, w3, w4, w5, w6, w7, w8, w9, w10, rfl, wf_u8 b1, wf_u16 b2⟩
def PS.lines : Nat → PS → PS
  | 0, s => s
  | n + 1, s => (PS.lines n s).line
theorem PS.Ok.lines {s : PS} (h : s.Ok) : ∀ n, (PS.lines n s).Ok
  | 0 => h
  | n + 1 => (PS.Ok.lines h n).line

theorem walk_PotPlays (off len cap : Nat) (hl : len ≤ maxLen) (E : Nat → List Value) (hE : ∀ i, i < len → FitsAll ptKs (E i)) :
    ACalls Try.prog 5 [.slice (some ⟨0, off, none⟩) len cap] [.ro (slc off 16 len E)] fun v _ => v = .bool true := by
  refine ACalls.code tabOk h5 Try.func5 Try.call5 ok5 ?_
  conv => whnf
  refine Bif.of (fun h60 => ?_) fun h60 => ?_
  · conv => whnf
    refine ⟨rfl, ?_⟩
    conv => whnf
  have hl : len ≤ 60 := by simp at h60; omega
  conv => whnf
  refine ACalls.useE (pot_new) [] rfl (by (conv => whnf); try rfl) (by (conv => whnf); try rfl) ?_
  conv => whnf
  refine ACalls.useE (ref20_new) [] rfl (by (conv => whnf); try rfl) (by (conv => whnf); try rfl) ?_
  conv => whnf
  refine ALoop.fd (σ := Nat × PS) (fun s => [.slice (some ⟨0, off, none⟩) len cap, .chan none, .bool false, .pointer (some ⟨1, 0, none⟩), .pointer (some ⟨2, 0, none⟩), .int .i64 s.1, .chan none, .chan none, .chan none, .chan none, .chan none, .chan none, .chan none, .chan none, .chan none, .chan none, .chan none, .chan none, .chan none, .chan none, .chan none, .chan none, .chan none, .chan none, .chan none, .chan none, .chan none, .chan none, .chan none, .chan none, .chan none, .chan none, .chan none, .chan none, .chan none, .chan none, .chan none, .chan none, .chan none, .chan none, .chan none, .chan none, .chan none, .chan none, .chan none, .chan none, .chan none, .chan none, .chan none, .chan none, .chan none, .chan none, .chan none, .chan none, .chan none, .chan none, .chan none, .chan none, .chan none, .chan none, .chan none, .chan none, .chan none, .chan none, .chan none, .chan none, .chan none, .chan none, .chan none, .chan none, .chan none, .chan none, .chan none, .chan none, .chan none, .chan none, .chan none, .chan none, .chan none, .chan none, .chan none, .chan none, .chan none, .chan none, .chan none, .chan none, .chan none, .chan none, .chan none, .chan none, .chan none, .chan none, .chan none, .chan none, .chan none, .chan none, .chan none, .chan none, .chan none, .chan none, .chan none, .chan none, .chan none, .chan none, .chan none, .chan none, .chan none, .chan none, .chan none, .chan none, .chan none, .chan none, .chan none, .chan none, .chan none, .chan none, .chan none, .chan none, .chan none, .chan none, .chan none, .chan none, .chan none, .chan none, .chan none, .chan none, .chan none, .chan none, .chan none, .chan none, .chan none]) (fun s => [.ro (slc off 16 len E), s.2.blk, .cells [.int .i64 s.2.v0, .int .i64 s.2.v1, .int .i64 s.2.v2, .int .i64 s.2.v3, .int .i64 s.2.ch, .bool s.2.du, .bool s.2.h0, .bool s.2.h1, .bool s.2.la, .bool s.2.l0, .bool s.2.l1] 36])
    (fun s => s.1 ≤ len ∧ s.2.Ok) (fun s => len - s.1) (0, ⟨0, 0, 0, 0, 0, false, true, true, true, true, false⟩) [] rfl rfl ⟨Nat.zero_le _, PS.Ok.new⟩ (fun _ => ⟨rfl, rfl, rfl, rfl⟩) ?_
  rintro s ⟨hi, hok⟩ R hR
  have e2 : IntKind.i64.wrap ((s.1 : Int) + 1) = ((s.1 + 1 : Nat) : Int) := by rw [wrap64 (by omega) (by omega)]; rfl
  conv => whnf
  refine Bif.of (fun h0 => ?_) fun h0 => ?_
  · have hlt : s.1 < len := by simp at h0; omega
    obtain ⟨k, n, v, ln, on, w0, w1, w2, w3, w4, w5, w6, w7, w8, w9, w10, hEi, b1, b2⟩ := pt_cells (hE s.1 hlt)
    have ev : IntKind.i64.wrap v = v := wrap64 (by omega) (by omega)
    have hk0 : 0 ≤ (IntKind.i64.wrap (k.tmod 5 + 5)).tmod 5 ∧ (IntKind.i64.wrap (k.tmod 5 + 5)).tmod 5 ≤ 4 := by
      have h1 := Int.lt_tmod_of_pos k (show (0 : Int) < 5 by decide)
      have h2 := Int.tmod_lt_of_pos k (show (0 : Int) < 5 by decide)
      rw [wrap64 (by omega) (by omega), Int.tmod_eq_emod_of_nonneg (by omega)]; omega
    have oki := hok.inp (n := n) b1
    have okd := hok.dump on
    have okl := hok.latch on
    generalize hK : (IntKind.i64.wrap (k.tmod 5 + 5)).tmod 5 = K at hk0
    have hK' : K = 0 ∨ K = 1 ∨ K = 2 ∨ K = 3 ∨ K = 4 := by omega
    rcases hK' with rfl | rfl | rfl | rfl | rfl
    · conv => whnf
      refine Req.of ?_ ?_
      · (clear hR; simp; omega)
      conv => whnf
      refine slc_ex s.1 0 hlt (by decide) (by rw [hEi]; rfl) (by first | omega | (simp; done)) ?_
      conv => whnf
      refine slc_ex s.1 1 hlt (by decide) (by rw [hEi]; rfl) (by first | omega | (simp; done)) ?_
      conv => whnf
      refine slc_ex s.1 2 hlt (by decide) (by rw [hEi]; rfl) (by first | omega | (simp; done)) ?_
      conv => whnf
      refine slc_ex s.1 3 hlt (by decide) (by rw [hEi]; rfl) (by first | omega | (simp; done)) ?_
      conv => whnf
      refine slc_ex s.1 4 hlt (by decide) (by rw [hEi]; rfl) (by first | omega | (simp; done)) ?_
      conv => whnf
      refine slc_ex s.1 5 hlt (by decide) (by rw [hEi]; rfl) (by first | omega | (simp; done)) ?_
      conv => whnf
      refine slc_ex s.1 6 hlt (by decide) (by rw [hEi]; rfl) (by first | omega | (simp; done)) ?_
      conv => whnf
      refine slc_ex s.1 7 hlt (by decide) (by rw [hEi]; rfl) (by first | omega | (simp; done)) ?_
      conv => whnf
      refine slc_ex s.1 8 hlt (by decide) (by rw [hEi]; rfl) (by first | omega | (simp; done)) ?_
      conv => whnf
      refine slc_ex s.1 9 hlt (by decide) (by rw [hEi]; rfl) (by first | omega | (simp; done)) ?_
      conv => whnf
      refine slc_ex s.1 10 hlt (by decide) (by rw [hEi]; rfl) (by first | omega | (simp; done)) ?_
      conv => whnf
      refine slc_ex s.1 11 hlt (by decide) (by rw [hEi]; rfl) (by first | omega | (simp; done)) ?_
      conv => whnf
      refine slc_ex s.1 12 hlt (by decide) (by rw [hEi]; rfl) (by first | omega | (simp; done)) ?_
      conv => whnf
      refine slc_ex s.1 13 hlt (by decide) (by rw [hEi]; rfl) (by first | omega | (simp; done)) ?_
      conv => whnf
      refine slc_ex s.1 14 hlt (by decide) (by rw [hEi]; rfl) (by first | omega | (simp; done)) ?_
      conv => whnf
      refine slc_ex s.1 15 hlt (by decide) (by rw [hEi]; rfl) (by first | omega | (simp; done)) ?_
      conv => whnf
      rw [hK]
      conv => whnf
      refine ACalls.useE (pot_in _ _ _ _ _ _ _ _ _ _ _ _ _) [1] rfl (by (conv => whnf); try rfl) (by (conv => whnf); try rfl) ?_
      conv => whnf
      refine ACalls.useE (ref20_in _ _ _ _ _ _ _ _ _ _ _ _ _ ?_ ?_ ?_) [] rfl (by (conv => whnf); try rfl) (by (conv => whnf); try rfl) ?_
      · exact hok.f0
      · exact hok.f1
      · omega
      conv => whnf
      refine ALoop.run 10 ?_
      conv => whnf
      refine ACalls.useE (pot_high _ _ _ _ _ _ _ _ _ _ _ _) [1] rfl (by (conv => whnf); try rfl) (by (conv => whnf); try rfl) ?_
      conv => whnf
      rw [ev]
      conv => whnf
      refine ⟨rfl, ?_⟩
      conv => whnf
      refine ACalls.useE (ref20_high _ _ _ _ _ _ _ _ _ _ _ _ ?_) [] rfl (by (conv => whnf); try rfl) (by (conv => whnf); try rfl) ?_
      · exact oki.v
      conv => whnf
      refine ACalls.useE (pot_high _ _ _ _ _ _ _ _ _ _ _ _) [1] rfl (by (conv => whnf); try rfl) (by (conv => whnf); try rfl) ?_
      conv => whnf
      refine ⟨rfl, ?_⟩
      conv => whnf
      refine ACalls.useE (ref20_high _ _ _ _ _ _ _ _ _ _ _ _ ?_) [] rfl (by (conv => whnf); try rfl) (by (conv => whnf); try rfl) ?_
      · exact oki.v
      conv => whnf
      refine Bif.knF ?_ fun h0 => ?_
      · (simp; done)
      conv => whnf
      refine ACalls.useE (pot_high _ _ _ _ _ _ _ _ _ _ _ _) [1] rfl (by (conv => whnf); try rfl) (by (conv => whnf); try rfl) ?_
      conv => whnf
      refine ⟨rfl, ?_⟩
      conv => whnf
      refine ACalls.useE (ref20_high _ _ _ _ _ _ _ _ _ _ _ _ ?_) [] rfl (by (conv => whnf); try rfl) (by (conv => whnf); try rfl) ?_
      · exact oki.v
      conv => whnf
      refine Bif.knF ?_ fun h1 => ?_
      · (simp; done)
      conv => whnf
      refine ACalls.useE (pot_high _ _ _ _ _ _ _ _ _ _ _ _) [1] rfl (by (conv => whnf); try rfl) (by (conv => whnf); try rfl) ?_
      conv => whnf
      refine ⟨rfl, ?_⟩
      conv => whnf
      refine ACalls.useE (ref20_high _ _ _ _ _ _ _ _ _ _ _ _ ?_) [] rfl (by (conv => whnf); try rfl) (by (conv => whnf); try rfl) ?_
      · exact oki.v
      conv => whnf
      refine Bif.knF ?_ fun h2 => ?_
      · (simp; done)
      conv => whnf
      refine ACalls.useE (pot_high _ _ _ _ _ _ _ _ _ _ _ _) [1] rfl (by (conv => whnf); try rfl) (by (conv => whnf); try rfl) ?_
      conv => whnf
      refine ⟨rfl, ?_⟩
      conv => whnf
      refine ACalls.useE (ref20_high _ _ _ _ _ _ _ _ _ _ _ _ ?_) [] rfl (by (conv => whnf); try rfl) (by (conv => whnf); try rfl) ?_
      · exact oki.v
      conv => whnf
      refine Bif.knF ?_ fun h3 => ?_
      · (simp; done)
      conv => whnf
      refine ACalls.useE (pot_high _ _ _ _ _ _ _ _ _ _ _ _) [1] rfl (by (conv => whnf); try rfl) (by (conv => whnf); try rfl) ?_
      conv => whnf
      refine ⟨rfl, ?_⟩
      conv => whnf
      refine ACalls.useE (ref20_high _ _ _ _ _ _ _ _ _ _ _ _ ?_) [] rfl (by (conv => whnf); try rfl) (by (conv => whnf); try rfl) ?_
      · exact oki.v
      conv => whnf
      refine Bif.knF ?_ fun h4 => ?_
      · (simp; done)
      conv => whnf
      refine ACalls.useE (pot_high _ _ _ _ _ _ _ _ _ _ _ _) [1] rfl (by (conv => whnf); try rfl) (by (conv => whnf); try rfl) ?_
      conv => whnf
      refine ⟨rfl, ?_⟩
      conv => whnf
      refine ACalls.useE (ref20_high _ _ _ _ _ _ _ _ _ _ _ _ ?_) [] rfl (by (conv => whnf); try rfl) (by (conv => whnf); try rfl) ?_
      · exact oki.v
      conv => whnf
      refine Bif.knF ?_ fun h5 => ?_
      · (simp; done)
      conv => whnf
      refine ACalls.useE (pot_high _ _ _ _ _ _ _ _ _ _ _ _) [1] rfl (by (conv => whnf); try rfl) (by (conv => whnf); try rfl) ?_
      conv => whnf
      refine ⟨rfl, ?_⟩
      conv => whnf
      refine ACalls.useE (ref20_high _ _ _ _ _ _ _ _ _ _ _ _ ?_) [] rfl (by (conv => whnf); try rfl) (by (conv => whnf); try rfl) ?_
      · exact oki.v
      conv => whnf
      refine ACalls.useE (pot_words _ _ _ _ _ _ _ _ _ _ _ ?_) [1] rfl (by (conv => whnf); try rfl) (by (conv => whnf); try rfl) ?_
      · exact oki.v
      conv => whnf
      refine ⟨rfl, ?_⟩
      conv => whnf
      refine ACalls.useE (ref20_words _ _ _ _ _ _ _ _ _ _ _) [] rfl (by (conv => whnf); try rfl) (by (conv => whnf); try rfl) ?_
      conv => whnf
      refine Bif.knF ?_ fun h6 => ?_
      · (simp; done)
      conv => whnf
      refine Bif.knF ?_ fun h7 => ?_
      · with_reducible assumption
      conv => whnf
      refine Bif.knF ?_ fun h8 => ?_
      · with_reducible assumption
      conv => whnf
      refine Bif.knF ?_ fun h9 => ?_
      · with_reducible assumption
      conv => whnf
      refine Bif.knF ?_ fun h10 => ?_
      · with_reducible assumption
      conv => whnf
      refine Bif.knF ?_ fun h11 => ?_
      · with_reducible assumption
      conv => whnf
      refine Bif.knF ?_ fun h12 => ?_
      · with_reducible assumption
      conv => whnf
      refine ACalls.useE (pot_high _ _ _ _ _ _ _ _ _ _ _ _) [1] rfl (by (conv => whnf); try rfl) (by (conv => whnf); try rfl) ?_
      conv => whnf
      refine ⟨rfl, ?_⟩
      conv => whnf
      refine ⟨rfl, ?_⟩
      conv => whnf
      refine Bif.knF ?_ fun h13 => ?_
      · with_reducible assumption
      conv => whnf
      refine ACalls.useE (ref20_high _ _ _ _ _ _ _ _ _ _ _ _ ?_) [] rfl (by (conv => whnf); try rfl) (by (conv => whnf); try rfl) ?_
      · exact oki.v
      conv => whnf
      refine Bif.knF ?_ fun h14 => ?_
      · with_reducible assumption
      conv => whnf
      refine Bif.knF ?_ fun h15 => ?_
      · with_reducible assumption
      conv => whnf
      refine Bif.knF ?_ fun h16 => ?_
      · (simp; done)
      conv => whnf
      (rw [e2]; exact hR (s.1 + 1, s.2.inp n v) _ _ _ rfl rfl ⟨hlt, oki⟩ (by show len - (s.1 + 1) < len - s.1; omega))
    · conv => whnf
      refine Req.of ?_ ?_
      · (clear hR; simp; omega)
      conv => whnf
      refine slc_ex s.1 0 hlt (by decide) (by rw [hEi]; rfl) (by first | omega | (simp; done)) ?_
      conv => whnf
      refine slc_ex s.1 1 hlt (by decide) (by rw [hEi]; rfl) (by first | omega | (simp; done)) ?_
      conv => whnf
      refine slc_ex s.1 2 hlt (by decide) (by rw [hEi]; rfl) (by first | omega | (simp; done)) ?_
      conv => whnf
      refine slc_ex s.1 3 hlt (by decide) (by rw [hEi]; rfl) (by first | omega | (simp; done)) ?_
      conv => whnf
      refine slc_ex s.1 4 hlt (by decide) (by rw [hEi]; rfl) (by first | omega | (simp; done)) ?_
      conv => whnf
      refine slc_ex s.1 5 hlt (by decide) (by rw [hEi]; rfl) (by first | omega | (simp; done)) ?_
      conv => whnf
      refine slc_ex s.1 6 hlt (by decide) (by rw [hEi]; rfl) (by first | omega | (simp; done)) ?_
      conv => whnf
      refine slc_ex s.1 7 hlt (by decide) (by rw [hEi]; rfl) (by first | omega | (simp; done)) ?_
      conv => whnf
      refine slc_ex s.1 8 hlt (by decide) (by rw [hEi]; rfl) (by first | omega | (simp; done)) ?_
      conv => whnf
      refine slc_ex s.1 9 hlt (by decide) (by rw [hEi]; rfl) (by first | omega | (simp; done)) ?_
      conv => whnf
      refine slc_ex s.1 10 hlt (by decide) (by rw [hEi]; rfl) (by first | omega | (simp; done)) ?_
      conv => whnf
      refine slc_ex s.1 11 hlt (by decide) (by rw [hEi]; rfl) (by first | omega | (simp; done)) ?_
      conv => whnf
      refine slc_ex s.1 12 hlt (by decide) (by rw [hEi]; rfl) (by first | omega | (simp; done)) ?_
      conv => whnf
      refine slc_ex s.1 13 hlt (by decide) (by rw [hEi]; rfl) (by first | omega | (simp; done)) ?_
      conv => whnf
      refine slc_ex s.1 14 hlt (by decide) (by rw [hEi]; rfl) (by first | omega | (simp; done)) ?_
      conv => whnf
      refine slc_ex s.1 15 hlt (by decide) (by rw [hEi]; rfl) (by first | omega | (simp; done)) ?_
      conv => whnf
      rw [hK]
      conv => whnf
      have hN : (IntKind.i64.wrap ln).tmod 600 = ln % 600 := by rw [wrap64 (by omega) (by omega), Int.tmod_eq_emod_of_nonneg (by omega)]
      refine ALoop.fd (σ := Nat) (fun j => [.slice (some ⟨0, off, none⟩) len cap, .chan none, .bool false, .pointer (some ⟨1, 0, none⟩), .pointer (some ⟨2, 0, none⟩), .int .i64 s.1, .pointer (some ⟨3, 0, none⟩), .int .i64 j, .chan none, .chan none, .chan none, .chan none, .chan none, .chan none, .chan none, .chan none, .chan none, .chan none, .chan none, .chan none, .chan none, .chan none, .chan none, .chan none, .chan none, .chan none, .chan none, .chan none, .chan none, .chan none, .int .i64 1, .chan none, .chan none, .chan none, .chan none, .chan none, .chan none, .chan none, .chan none, .chan none, .chan none, .chan none, .chan none, .chan none, .chan none, .chan none, .chan none, .chan none, .chan none, .chan none, .chan none, .chan none, .chan none, .chan none, .chan none, .chan none, .chan none, .chan none, .chan none, .chan none, .chan none, .chan none, .chan none, .chan none, .chan none, .chan none, .chan none, .chan none, .chan none, .chan none, .chan none, .chan none, .chan none, .chan none, .chan none, .chan none, .chan none, .chan none, .chan none, .chan none, .chan none, .chan none, .chan none, .chan none, .chan none, .chan none, .chan none, .chan none, .chan none, .chan none, .chan none, .chan none, .chan none, .chan none, .chan none, .chan none, .chan none, .chan none, .chan none, .chan none, .chan none, .chan none, .chan none, .chan none, .chan none, .chan none, .chan none, .chan none, .chan none, .chan none, .chan none, .chan none, .chan none, .chan none, .chan none, .chan none, .chan none, .chan none, .chan none, .chan none, .chan none, .chan none, .chan none, .chan none, .chan none, .chan none, .chan none, .chan none, .chan none, .chan none, .chan none]) (fun j => [.ro (slc off 16 len E), (PS.lines j s.2).blk, .cells [.int .i64 (PS.lines j s.2).v0, .int .i64 (PS.lines j s.2).v1, .int .i64 (PS.lines j s.2).v2, .int .i64 (PS.lines j s.2).v3, .int .i64 (PS.lines j s.2).ch, .bool (PS.lines j s.2).du, .bool (PS.lines j s.2).h0, .bool (PS.lines j s.2).h1, .bool (PS.lines j s.2).la, .bool (PS.lines j s.2).l0, .bool (PS.lines j s.2).l1] 36, .cells [.int .i64 k, .int .i64 n, .int .u8 v, .int .u16 ln, .bool on, .int .i64 w0, .int .i64 w1, .int .i64 w2, .int .i64 w3, .int .i64 w4, .int .i64 w5, .int .i64 w6, .int .i64 w7, .int .i64 w8, .int .i64 w9, .int .i64 w10] 40]) (fun j => (j : Int) ≤ ln % 600) (fun j => 600 - j) 0 [] rfl rfl (by show (0 : Int) ≤ _; omega) (fun _ => ⟨rfl, rfl, rfl, rfl⟩) ?_
      intro j hj R' hR'
      have ej : IntKind.i64.wrap ((j : Int) + 1) = ((j + 1 : Nat) : Int) := by rw [wrap64 (by omega) (by omega)]; rfl
      have okj := hok.lines j
      conv => whnf
      rw [hN]
      refine Bif.of (fun hc => ?_) fun hc => ?_
      · have hlt2 : (j : Int) < ln % 600 := by simpa using hc
        clear hR
        conv => whnf
        refine ACalls.useE (pot_line _ _ _ _ _ _ _ _ _ _ _) [1] rfl (by (conv => whnf); try rfl) (by (conv => whnf); try rfl) ?_
        conv => whnf
        refine ACalls.useE (ref20_line _ _ _ _ _ _ _ _ _ _ _ ?_) [] rfl (by (conv => whnf); try rfl) (by (conv => whnf); try rfl) ?_
        · exact okj.ch
        conv => whnf
        (rw [ej]; exact hR' (j + 1) _ _ _ rfl rfl (by omega) (by omega))
      · clear hR'
        conv => whnf
        refine ALoop.run 10 ?_
        conv => whnf
        refine ACalls.useE (pot_high _ _ _ _ _ _ _ _ _ _ _ _) [1] rfl (by (conv => whnf); try rfl) (by (conv => whnf); try rfl) ?_
        conv => whnf
        refine ⟨rfl, ?_⟩
        conv => whnf
        refine ACalls.useE (ref20_high _ _ _ _ _ _ _ _ _ _ _ _ ?_) [] rfl (by (conv => whnf); try rfl) (by (conv => whnf); try rfl) ?_
        · exact okj.v
        conv => whnf
        refine ACalls.useE (pot_high _ _ _ _ _ _ _ _ _ _ _ _) [1] rfl (by (conv => whnf); try rfl) (by (conv => whnf); try rfl) ?_
        conv => whnf
        refine ⟨rfl, ?_⟩
        conv => whnf
        refine ACalls.useE (ref20_high _ _ _ _ _ _ _ _ _ _ _ _ ?_) [] rfl (by (conv => whnf); try rfl) (by (conv => whnf); try rfl) ?_
        · exact okj.v
        conv => whnf
        refine Bif.knF ?_ fun h0 => ?_
        · (simp; done)
        conv => whnf
        refine ACalls.useE (pot_high _ _ _ _ _ _ _ _ _ _ _ _) [1] rfl (by (conv => whnf); try rfl) (by (conv => whnf); try rfl) ?_
        conv => whnf
        refine ⟨rfl, ?_⟩
        conv => whnf
        refine ACalls.useE (ref20_high _ _ _ _ _ _ _ _ _ _ _ _ ?_) [] rfl (by (conv => whnf); try rfl) (by (conv => whnf); try rfl) ?_
        · exact okj.v
        conv => whnf
        refine Bif.knF ?_ fun h1 => ?_
        · (simp; done)
        conv => whnf
        refine ACalls.useE (pot_high _ _ _ _ _ _ _ _ _ _ _ _) [1] rfl (by (conv => whnf); try rfl) (by (conv => whnf); try rfl) ?_
        conv => whnf
        refine ⟨rfl, ?_⟩
        conv => whnf
        refine ACalls.useE (ref20_high _ _ _ _ _ _ _ _ _ _ _ _ ?_) [] rfl (by (conv => whnf); try rfl) (by (conv => whnf); try rfl) ?_
        · exact okj.v
        conv => whnf
        refine Bif.knF ?_ fun h2 => ?_
        · (simp; done)
        conv => whnf
        refine ACalls.useE (pot_high _ _ _ _ _ _ _ _ _ _ _ _) [1] rfl (by (conv => whnf); try rfl) (by (conv => whnf); try rfl) ?_
        conv => whnf
        refine ⟨rfl, ?_⟩
        conv => whnf
        refine ACalls.useE (ref20_high _ _ _ _ _ _ _ _ _ _ _ _ ?_) [] rfl (by (conv => whnf); try rfl) (by (conv => whnf); try rfl) ?_
        · exact okj.v
        conv => whnf
        refine Bif.knF ?_ fun h3 => ?_
        · (simp; done)
        conv => whnf
        refine ACalls.useE (pot_high _ _ _ _ _ _ _ _ _ _ _ _) [1] rfl (by (conv => whnf); try rfl) (by (conv => whnf); try rfl) ?_
        conv => whnf
        refine ⟨rfl, ?_⟩
        conv => whnf
        refine ACalls.useE (ref20_high _ _ _ _ _ _ _ _ _ _ _ _ ?_) [] rfl (by (conv => whnf); try rfl) (by (conv => whnf); try rfl) ?_
        · exact okj.v
        conv => whnf
        refine Bif.knF ?_ fun h4 => ?_
        · (simp; done)
        conv => whnf
        refine ACalls.useE (pot_high _ _ _ _ _ _ _ _ _ _ _ _) [1] rfl (by (conv => whnf); try rfl) (by (conv => whnf); try rfl) ?_
        conv => whnf
        refine ⟨rfl, ?_⟩
        conv => whnf
        refine ACalls.useE (ref20_high _ _ _ _ _ _ _ _ _ _ _ _ ?_) [] rfl (by (conv => whnf); try rfl) (by (conv => whnf); try rfl) ?_
        · exact okj.v
        conv => whnf
        refine Bif.knF ?_ fun h5 => ?_
        · (simp; done)
        conv => whnf
        refine ACalls.useE (pot_high _ _ _ _ _ _ _ _ _ _ _ _) [1] rfl (by (conv => whnf); try rfl) (by (conv => whnf); try rfl) ?_
        conv => whnf
        refine ⟨rfl, ?_⟩
        conv => whnf
        refine ACalls.useE (ref20_high _ _ _ _ _ _ _ _ _ _ _ _ ?_) [] rfl (by (conv => whnf); try rfl) (by (conv => whnf); try rfl) ?_
        · exact okj.v
        conv => whnf
        refine ACalls.useE (pot_words _ _ _ _ _ _ _ _ _ _ _ ?_) [1] rfl (by (conv => whnf); try rfl) (by (conv => whnf); try rfl) ?_
        · exact okj.v
        conv => whnf
        refine ⟨rfl, ?_⟩
        conv => whnf
        refine ACalls.useE (ref20_words _ _ _ _ _ _ _ _ _ _ _) [] rfl (by (conv => whnf); try rfl) (by (conv => whnf); try rfl) ?_
        conv => whnf
        refine Bif.knF ?_ fun h6 => ?_
        · (simp; done)
        conv => whnf
        refine Bif.knF ?_ fun h7 => ?_
        · with_reducible assumption
        conv => whnf
        refine Bif.knF ?_ fun h8 => ?_
        · with_reducible assumption
        conv => whnf
        refine Bif.knF ?_ fun h9 => ?_
        · with_reducible assumption
        conv => whnf
        refine Bif.knF ?_ fun h10 => ?_
        · with_reducible assumption
        conv => whnf
        refine Bif.knF ?_ fun h11 => ?_
        · with_reducible assumption
        conv => whnf
        refine Bif.knF ?_ fun h12 => ?_
        · with_reducible assumption
        conv => whnf
        refine ACalls.useE (pot_high _ _ _ _ _ _ _ _ _ _ _ _) [1] rfl (by (conv => whnf); try rfl) (by (conv => whnf); try rfl) ?_
        conv => whnf
        refine ⟨rfl, ?_⟩
        conv => whnf
        refine ⟨rfl, ?_⟩
        conv => whnf
        refine Bif.knF ?_ fun h13 => ?_
        · with_reducible assumption
        conv => whnf
        refine ACalls.useE (ref20_high _ _ _ _ _ _ _ _ _ _ _ _ ?_) [] rfl (by (conv => whnf); try rfl) (by (conv => whnf); try rfl) ?_
        · exact okj.v
        conv => whnf
        refine Bif.knF ?_ fun h14 => ?_
        · with_reducible assumption
        conv => whnf
        refine Bif.knF ?_ fun h15 => ?_
        · with_reducible assumption
        conv => whnf
        refine Bif.knF ?_ fun h16 => ?_
        · (simp; done)
        conv => whnf
        (rw [e2]; exact hR (s.1 + 1, PS.lines j s.2) _ _ _ rfl rfl ⟨hlt, okj⟩ (by show len - (s.1 + 1) < len - s.1; omega))
    · conv => whnf
      refine Req.of ?_ ?_
      · (clear hR; simp; omega)
      conv => whnf
      refine slc_ex s.1 0 hlt (by decide) (by rw [hEi]; rfl) (by first | omega | (simp; done)) ?_
      conv => whnf
      refine slc_ex s.1 1 hlt (by decide) (by rw [hEi]; rfl) (by first | omega | (simp; done)) ?_
      conv => whnf
      refine slc_ex s.1 2 hlt (by decide) (by rw [hEi]; rfl) (by first | omega | (simp; done)) ?_
      conv => whnf
      refine slc_ex s.1 3 hlt (by decide) (by rw [hEi]; rfl) (by first | omega | (simp; done)) ?_
      conv => whnf
      refine slc_ex s.1 4 hlt (by decide) (by rw [hEi]; rfl) (by first | omega | (simp; done)) ?_
      conv => whnf
      refine slc_ex s.1 5 hlt (by decide) (by rw [hEi]; rfl) (by first | omega | (simp; done)) ?_
      conv => whnf
      refine slc_ex s.1 6 hlt (by decide) (by rw [hEi]; rfl) (by first | omega | (simp; done)) ?_
      conv => whnf
      refine slc_ex s.1 7 hlt (by decide) (by rw [hEi]; rfl) (by first | omega | (simp; done)) ?_
      conv => whnf
      refine slc_ex s.1 8 hlt (by decide) (by rw [hEi]; rfl) (by first | omega | (simp; done)) ?_
      conv => whnf
      refine slc_ex s.1 9 hlt (by decide) (by rw [hEi]; rfl) (by first | omega | (simp; done)) ?_
      conv => whnf
      refine slc_ex s.1 10 hlt (by decide) (by rw [hEi]; rfl) (by first | omega | (simp; done)) ?_
      conv => whnf
      refine slc_ex s.1 11 hlt (by decide) (by rw [hEi]; rfl) (by first | omega | (simp; done)) ?_
      conv => whnf
      refine slc_ex s.1 12 hlt (by decide) (by rw [hEi]; rfl) (by first | omega | (simp; done)) ?_
      conv => whnf
      refine slc_ex s.1 13 hlt (by decide) (by rw [hEi]; rfl) (by first | omega | (simp; done)) ?_
      conv => whnf
      refine slc_ex s.1 14 hlt (by decide) (by rw [hEi]; rfl) (by first | omega | (simp; done)) ?_
      conv => whnf
      refine slc_ex s.1 15 hlt (by decide) (by rw [hEi]; rfl) (by first | omega | (simp; done)) ?_
      conv => whnf
      rw [hK]
      conv => whnf
      refine ACalls.useE (pot_dump _ _ _ _ _ _ _ _ _ _ _ _) [1] rfl (by (conv => whnf); try rfl) (by (conv => whnf); try rfl) ?_
      conv => whnf
      refine ACalls.useE (ref20_dump _ _ _ _ _ _ _ _ _ _ _ _) [] rfl (by (conv => whnf); try rfl) (by (conv => whnf); try rfl) ?_
      conv => whnf
      refine ALoop.run 10 ?_
      conv => whnf
      refine ACalls.useE (pot_high _ _ _ _ _ _ _ _ _ _ _ _) [1] rfl (by (conv => whnf); try rfl) (by (conv => whnf); try rfl) ?_
      conv => whnf
      refine ⟨rfl, ?_⟩
      conv => whnf
      refine ACalls.useE (ref20_high _ _ _ _ _ _ _ _ _ _ _ _ ?_) [] rfl (by (conv => whnf); try rfl) (by (conv => whnf); try rfl) ?_
      · exact hok.v
      conv => whnf
      refine ACalls.useE (pot_high _ _ _ _ _ _ _ _ _ _ _ _) [1] rfl (by (conv => whnf); try rfl) (by (conv => whnf); try rfl) ?_
      conv => whnf
      refine ⟨rfl, ?_⟩
      conv => whnf
      refine ACalls.useE (ref20_high _ _ _ _ _ _ _ _ _ _ _ _ ?_) [] rfl (by (conv => whnf); try rfl) (by (conv => whnf); try rfl) ?_
      · exact hok.v
      conv => whnf
      refine Bif.knF ?_ fun h0 => ?_
      · (simp; done)
      conv => whnf
      refine ACalls.useE (pot_high _ _ _ _ _ _ _ _ _ _ _ _) [1] rfl (by (conv => whnf); try rfl) (by (conv => whnf); try rfl) ?_
      conv => whnf
      refine ⟨rfl, ?_⟩
      conv => whnf
      refine ACalls.useE (ref20_high _ _ _ _ _ _ _ _ _ _ _ _ ?_) [] rfl (by (conv => whnf); try rfl) (by (conv => whnf); try rfl) ?_
      · exact hok.v
      conv => whnf
      refine Bif.knF ?_ fun h1 => ?_
      · (simp; done)
      conv => whnf
      refine ACalls.useE (pot_high _ _ _ _ _ _ _ _ _ _ _ _) [1] rfl (by (conv => whnf); try rfl) (by (conv => whnf); try rfl) ?_
      conv => whnf
      refine ⟨rfl, ?_⟩
      conv => whnf
      refine ACalls.useE (ref20_high _ _ _ _ _ _ _ _ _ _ _ _ ?_) [] rfl (by (conv => whnf); try rfl) (by (conv => whnf); try rfl) ?_
      · exact hok.v
      conv => whnf
      refine Bif.knF ?_ fun h2 => ?_
      · (simp; done)
      conv => whnf
      refine ACalls.useE (pot_high _ _ _ _ _ _ _ _ _ _ _ _) [1] rfl (by (conv => whnf); try rfl) (by (conv => whnf); try rfl) ?_
      conv => whnf
      refine ⟨rfl, ?_⟩
      conv => whnf
      refine ACalls.useE (ref20_high _ _ _ _ _ _ _ _ _ _ _ _ ?_) [] rfl (by (conv => whnf); try rfl) (by (conv => whnf); try rfl) ?_
      · exact hok.v
      conv => whnf
      refine Bif.knF ?_ fun h3 => ?_
      · (simp; done)
      conv => whnf
      refine ACalls.useE (pot_high _ _ _ _ _ _ _ _ _ _ _ _) [1] rfl (by (conv => whnf); try rfl) (by (conv => whnf); try rfl) ?_
      conv => whnf
      refine ⟨rfl, ?_⟩
      conv => whnf
      refine ACalls.useE (ref20_high _ _ _ _ _ _ _ _ _ _ _ _ ?_) [] rfl (by (conv => whnf); try rfl) (by (conv => whnf); try rfl) ?_
      · exact hok.v
      conv => whnf
      refine Bif.knF ?_ fun h4 => ?_
      · (simp; done)
      conv => whnf
      refine ACalls.useE (pot_high _ _ _ _ _ _ _ _ _ _ _ _) [1] rfl (by (conv => whnf); try rfl) (by (conv => whnf); try rfl) ?_
      conv => whnf
      refine ⟨rfl, ?_⟩
      conv => whnf
      refine ACalls.useE (ref20_high _ _ _ _ _ _ _ _ _ _ _ _ ?_) [] rfl (by (conv => whnf); try rfl) (by (conv => whnf); try rfl) ?_
      · exact hok.v
      conv => whnf
      refine Bif.knF ?_ fun h5 => ?_
      · (simp; done)
      conv => whnf
      refine ACalls.useE (pot_high _ _ _ _ _ _ _ _ _ _ _ _) [1] rfl (by (conv => whnf); try rfl) (by (conv => whnf); try rfl) ?_
      conv => whnf
      refine ⟨rfl, ?_⟩
      conv => whnf
      refine ACalls.useE (ref20_high _ _ _ _ _ _ _ _ _ _ _ _ ?_) [] rfl (by (conv => whnf); try rfl) (by (conv => whnf); try rfl) ?_
      · exact hok.v
      conv => whnf
      refine ACalls.useE (pot_words _ _ _ _ _ _ _ _ _ _ _ ?_) [1] rfl (by (conv => whnf); try rfl) (by (conv => whnf); try rfl) ?_
      · exact hok.v
      conv => whnf
      refine ⟨rfl, ?_⟩
      conv => whnf
      refine ACalls.useE (ref20_words _ _ _ _ _ _ _ _ _ _ _) [] rfl (by (conv => whnf); try rfl) (by (conv => whnf); try rfl) ?_
      conv => whnf
      refine Bif.knF ?_ fun h6 => ?_
      · (simp; done)
      conv => whnf
      refine Bif.knF ?_ fun h7 => ?_
      · with_reducible assumption
      conv => whnf
      refine Bif.knF ?_ fun h8 => ?_
      · with_reducible assumption
      conv => whnf
      refine Bif.knF ?_ fun h9 => ?_
      · with_reducible assumption
      conv => whnf
      refine Bif.knF ?_ fun h10 => ?_
      · with_reducible assumption
      conv => whnf
      refine Bif.knF ?_ fun h11 => ?_
      · with_reducible assumption
      conv => whnf
      refine Bif.knF ?_ fun h12 => ?_
      · with_reducible assumption
      conv => whnf
      refine ACalls.useE (pot_high _ _ _ _ _ _ _ _ _ _ _ _) [1] rfl (by (conv => whnf); try rfl) (by (conv => whnf); try rfl) ?_
      conv => whnf
      refine ⟨rfl, ?_⟩
      conv => whnf
      refine ⟨rfl, ?_⟩
      conv => whnf
      refine Bif.knF ?_ fun h13 => ?_
      · with_reducible assumption
      conv => whnf
      refine ACalls.useE (ref20_high _ _ _ _ _ _ _ _ _ _ _ _ ?_) [] rfl (by (conv => whnf); try rfl) (by (conv => whnf); try rfl) ?_
      · exact hok.v
      conv => whnf
      refine Bif.knF ?_ fun h14 => ?_
      · with_reducible assumption
      conv => whnf
      refine Bif.knF ?_ fun h15 => ?_
      · with_reducible assumption
      conv => whnf
      refine Bif.knF ?_ fun h16 => ?_
      · (simp; done)
      conv => whnf
      (rw [e2]; exact hR (s.1 + 1, s.2.dump on) _ _ _ rfl rfl ⟨hlt, okd⟩ (by show len - (s.1 + 1) < len - s.1; omega))
    · conv => whnf
      refine Req.of ?_ ?_
      · (clear hR; simp; omega)
      conv => whnf
      refine slc_ex s.1 0 hlt (by decide) (by rw [hEi]; rfl) (by first | omega | (simp; done)) ?_
      conv => whnf
      refine slc_ex s.1 1 hlt (by decide) (by rw [hEi]; rfl) (by first | omega | (simp; done)) ?_
      conv => whnf
      refine slc_ex s.1 2 hlt (by decide) (by rw [hEi]; rfl) (by first | omega | (simp; done)) ?_
      conv => whnf
      refine slc_ex s.1 3 hlt (by decide) (by rw [hEi]; rfl) (by first | omega | (simp; done)) ?_
      conv => whnf
      refine slc_ex s.1 4 hlt (by decide) (by rw [hEi]; rfl) (by first | omega | (simp; done)) ?_
      conv => whnf
      refine slc_ex s.1 5 hlt (by decide) (by rw [hEi]; rfl) (by first | omega | (simp; done)) ?_
      conv => whnf
      refine slc_ex s.1 6 hlt (by decide) (by rw [hEi]; rfl) (by first | omega | (simp; done)) ?_
      conv => whnf
      refine slc_ex s.1 7 hlt (by decide) (by rw [hEi]; rfl) (by first | omega | (simp; done)) ?_
      conv => whnf
      refine slc_ex s.1 8 hlt (by decide) (by rw [hEi]; rfl) (by first | omega | (simp; done)) ?_
      conv => whnf
      refine slc_ex s.1 9 hlt (by decide) (by rw [hEi]; rfl) (by first | omega | (simp; done)) ?_
      conv => whnf
      refine slc_ex s.1 10 hlt (by decide) (by rw [hEi]; rfl) (by first | omega | (simp; done)) ?_
      conv => whnf
      refine slc_ex s.1 11 hlt (by decide) (by rw [hEi]; rfl) (by first | omega | (simp; done)) ?_
      conv => whnf
      refine slc_ex s.1 12 hlt (by decide) (by rw [hEi]; rfl) (by first | omega | (simp; done)) ?_
      conv => whnf
      refine slc_ex s.1 13 hlt (by decide) (by rw [hEi]; rfl) (by first | omega | (simp; done)) ?_
      conv => whnf
      refine slc_ex s.1 14 hlt (by decide) (by rw [hEi]; rfl) (by first | omega | (simp; done)) ?_
      conv => whnf
      refine slc_ex s.1 15 hlt (by decide) (by rw [hEi]; rfl) (by first | omega | (simp; done)) ?_
      conv => whnf
      rw [hK]
      conv => whnf
      refine ACalls.useE (pot_latch _ _ _ _ _ _ _ _ _ _ _ _) [1] rfl (by (conv => whnf); try rfl) (by (conv => whnf); try rfl) ?_
      conv => whnf
      refine ACalls.useE (ref20_latch _ _ _ _ _ _ _ _ _ _ _ _) [] rfl (by (conv => whnf); try rfl) (by (conv => whnf); try rfl) ?_
      conv => whnf
      refine ALoop.run 10 ?_
      conv => whnf
      refine ACalls.useE (pot_high _ _ _ _ _ _ _ _ _ _ _ _) [1] rfl (by (conv => whnf); try rfl) (by (conv => whnf); try rfl) ?_
      conv => whnf
      refine ⟨rfl, ?_⟩
      conv => whnf
      refine ACalls.useE (ref20_high _ _ _ _ _ _ _ _ _ _ _ _ ?_) [] rfl (by (conv => whnf); try rfl) (by (conv => whnf); try rfl) ?_
      · exact hok.v
      conv => whnf
      refine ACalls.useE (pot_high _ _ _ _ _ _ _ _ _ _ _ _) [1] rfl (by (conv => whnf); try rfl) (by (conv => whnf); try rfl) ?_
      conv => whnf
      refine ⟨rfl, ?_⟩
      conv => whnf
      refine ACalls.useE (ref20_high _ _ _ _ _ _ _ _ _ _ _ _ ?_) [] rfl (by (conv => whnf); try rfl) (by (conv => whnf); try rfl) ?_
      · exact hok.v
      conv => whnf
      refine Bif.knF ?_ fun h0 => ?_
      · (simp; done)
      conv => whnf
      refine ACalls.useE (pot_high _ _ _ _ _ _ _ _ _ _ _ _) [1] rfl (by (conv => whnf); try rfl) (by (conv => whnf); try rfl) ?_
      conv => whnf
      refine ⟨rfl, ?_⟩
      conv => whnf
      refine ACalls.useE (ref20_high _ _ _ _ _ _ _ _ _ _ _ _ ?_) [] rfl (by (conv => whnf); try rfl) (by (conv => whnf); try rfl) ?_
      · exact hok.v
      conv => whnf
      refine Bif.knF ?_ fun h1 => ?_
      · (simp; done)
      conv => whnf
      refine ACalls.useE (pot_high _ _ _ _ _ _ _ _ _ _ _ _) [1] rfl (by (conv => whnf); try rfl) (by (conv => whnf); try rfl) ?_
      conv => whnf
      refine ⟨rfl, ?_⟩
      conv => whnf
      refine ACalls.useE (ref20_high _ _ _ _ _ _ _ _ _ _ _ _ ?_) [] rfl (by (conv => whnf); try rfl) (by (conv => whnf); try rfl) ?_
      · exact hok.v
      conv => whnf
      refine Bif.knF ?_ fun h2 => ?_
      · (simp; done)
      conv => whnf
      refine ACalls.useE (pot_high _ _ _ _ _ _ _ _ _ _ _ _) [1] rfl (by (conv => whnf); try rfl) (by (conv => whnf); try rfl) ?_
      conv => whnf
      refine ⟨rfl, ?_⟩
      conv => whnf
      refine ACalls.useE (ref20_high _ _ _ _ _ _ _ _ _ _ _ _ ?_) [] rfl (by (conv => whnf); try rfl) (by (conv => whnf); try rfl) ?_
      · exact hok.v
      conv => whnf
      refine Bif.knF ?_ fun h3 => ?_
      · (simp; done)
      conv => whnf
      refine ACalls.useE (pot_high _ _ _ _ _ _ _ _ _ _ _ _) [1] rfl (by (conv => whnf); try rfl) (by (conv => whnf); try rfl) ?_
      conv => whnf
      refine ⟨rfl, ?_⟩
      conv => whnf
      refine ACalls.useE (ref20_high _ _ _ _ _ _ _ _ _ _ _ _ ?_) [] rfl (by (conv => whnf); try rfl) (by (conv => whnf); try rfl) ?_
      · exact hok.v
      conv => whnf
      refine Bif.knF ?_ fun h4 => ?_
      · (simp; done)
      conv => whnf
      refine ACalls.useE (pot_high _ _ _ _ _ _ _ _ _ _ _ _) [1] rfl (by (conv => whnf); try rfl) (by (conv => whnf); try rfl) ?_
      conv => whnf
      refine ⟨rfl, ?_⟩
      conv => whnf
      refine ACalls.useE (ref20_high _ _ _ _ _ _ _ _ _ _ _ _ ?_) [] rfl (by (conv => whnf); try rfl) (by (conv => whnf); try rfl) ?_
      · exact hok.v
      conv => whnf
      refine Bif.knF ?_ fun h5 => ?_
      · (simp; done)
      conv => whnf
      refine ACalls.useE (pot_high _ _ _ _ _ _ _ _ _ _ _ _) [1] rfl (by (conv => whnf); try rfl) (by (conv => whnf); try rfl) ?_
      conv => whnf
      refine ⟨rfl, ?_⟩
      conv => whnf
      refine ACalls.useE (ref20_high _ _ _ _ _ _ _ _ _ _ _ _ ?_) [] rfl (by (conv => whnf); try rfl) (by (conv => whnf); try rfl) ?_
      · exact hok.v
      conv => whnf
      refine ACalls.useE (pot_words _ _ _ _ _ _ _ _ _ _ _ ?_) [1] rfl (by (conv => whnf); try rfl) (by (conv => whnf); try rfl) ?_
      · exact hok.v
      conv => whnf
      refine ⟨rfl, ?_⟩
      conv => whnf
      refine ACalls.useE (ref20_words _ _ _ _ _ _ _ _ _ _ _) [] rfl (by (conv => whnf); try rfl) (by (conv => whnf); try rfl) ?_
      conv => whnf
      refine Bif.knF ?_ fun h6 => ?_
      · (simp; done)
      conv => whnf
      refine Bif.knF ?_ fun h7 => ?_
      · with_reducible assumption
      conv => whnf
      refine Bif.knF ?_ fun h8 => ?_
      · with_reducible assumption
      conv => whnf
      refine Bif.knF ?_ fun h9 => ?_
      · with_reducible assumption
      conv => whnf
      refine Bif.knF ?_ fun h10 => ?_
      · with_reducible assumption
      conv => whnf
      refine Bif.knF ?_ fun h11 => ?_
      · with_reducible assumption
      conv => whnf
      refine Bif.knF ?_ fun h12 => ?_
      · with_reducible assumption
      conv => whnf
      refine ACalls.useE (pot_high _ _ _ _ _ _ _ _ _ _ _ _) [1] rfl (by (conv => whnf); try rfl) (by (conv => whnf); try rfl) ?_
      conv => whnf
      refine ⟨rfl, ?_⟩
      conv => whnf
      refine ⟨rfl, ?_⟩
      conv => whnf
      refine Bif.knF ?_ fun h13 => ?_
      · with_reducible assumption
      conv => whnf
      refine ACalls.useE (ref20_high _ _ _ _ _ _ _ _ _ _ _ _ ?_) [] rfl (by (conv => whnf); try rfl) (by (conv => whnf); try rfl) ?_
      · exact hok.v
      conv => whnf
      refine Bif.knF ?_ fun h14 => ?_
      · with_reducible assumption
      conv => whnf
      refine Bif.knF ?_ fun h15 => ?_
      · with_reducible assumption
      conv => whnf
      refine Bif.knF ?_ fun h16 => ?_
      · (simp; done)
      conv => whnf
      (rw [e2]; exact hR (s.1 + 1, s.2.latch on) _ _ _ rfl rfl ⟨hlt, okl⟩ (by show len - (s.1 + 1) < len - s.1; omega))
    · cases ho : okP w0 w1 w2 w3 w4 w5 w6 w7 w8 w9 w10 with
      | true =>
        have oko := PS.Ok.of ho
        conv => whnf
        refine Req.of ?_ ?_
        · (clear hR; simp; omega)
        conv => whnf
        refine slc_ex s.1 0 hlt (by decide) (by rw [hEi]; rfl) (by first | omega | (simp; done)) ?_
        conv => whnf
        refine slc_ex s.1 1 hlt (by decide) (by rw [hEi]; rfl) (by first | omega | (simp; done)) ?_
        conv => whnf
        refine slc_ex s.1 2 hlt (by decide) (by rw [hEi]; rfl) (by first | omega | (simp; done)) ?_
        conv => whnf
        refine slc_ex s.1 3 hlt (by decide) (by rw [hEi]; rfl) (by first | omega | (simp; done)) ?_
        conv => whnf
        refine slc_ex s.1 4 hlt (by decide) (by rw [hEi]; rfl) (by first | omega | (simp; done)) ?_
        conv => whnf
        refine slc_ex s.1 5 hlt (by decide) (by rw [hEi]; rfl) (by first | omega | (simp; done)) ?_
        conv => whnf
        refine slc_ex s.1 6 hlt (by decide) (by rw [hEi]; rfl) (by first | omega | (simp; done)) ?_
        conv => whnf
        refine slc_ex s.1 7 hlt (by decide) (by rw [hEi]; rfl) (by first | omega | (simp; done)) ?_
        conv => whnf
        refine slc_ex s.1 8 hlt (by decide) (by rw [hEi]; rfl) (by first | omega | (simp; done)) ?_
        conv => whnf
        refine slc_ex s.1 9 hlt (by decide) (by rw [hEi]; rfl) (by first | omega | (simp; done)) ?_
        conv => whnf
        refine slc_ex s.1 10 hlt (by decide) (by rw [hEi]; rfl) (by first | omega | (simp; done)) ?_
        conv => whnf
        refine slc_ex s.1 11 hlt (by decide) (by rw [hEi]; rfl) (by first | omega | (simp; done)) ?_
        conv => whnf
        refine slc_ex s.1 12 hlt (by decide) (by rw [hEi]; rfl) (by first | omega | (simp; done)) ?_
        conv => whnf
        refine slc_ex s.1 13 hlt (by decide) (by rw [hEi]; rfl) (by first | omega | (simp; done)) ?_
        conv => whnf
        refine slc_ex s.1 14 hlt (by decide) (by rw [hEi]; rfl) (by first | omega | (simp; done)) ?_
        conv => whnf
        refine slc_ex s.1 15 hlt (by decide) (by rw [hEi]; rfl) (by first | omega | (simp; done)) ?_
        conv => whnf
        rw [hK]
        conv => whnf
        refine ACalls.useE (pot_set _ _ _ _ _ _ _ _ _ _ _ _ _ _ _ _ _ _ _ _ _ _) [1] rfl (by (conv => whnf); try rfl) (by (conv => whnf); try rfl) ?_
        conv => whnf
        refine ACalls.useE (ref20_right _ _ _ _ _ _ _ _ _ _ _) [] rfl (by (conv => whnf); try rfl) (by (conv => whnf); try rfl) ?_
        conv => whnf
        rw [ho]
        conv => whnf
        refine ACalls.useE (ref20_of _ _ _ _ _ _ _ _ _ _ _) [] rfl (by (conv => whnf); try rfl) (by (conv => whnf); try rfl) ?_
        conv => whnf
        refine ALoop.run 10 ?_
        conv => whnf
        refine ACalls.useE (pot_high _ _ _ _ _ _ _ _ _ _ _ _) [1] rfl (by (conv => whnf); try rfl) (by (conv => whnf); try rfl) ?_
        conv => whnf
        refine ⟨rfl, ?_⟩
        conv => whnf
        refine ACalls.useE (ref20_high _ _ _ _ _ _ _ _ _ _ _ _ ?_) [] rfl (by (conv => whnf); try rfl) (by (conv => whnf); try rfl) ?_
        · exact oko.v
        conv => whnf
        refine ACalls.useE (pot_high _ _ _ _ _ _ _ _ _ _ _ _) [1] rfl (by (conv => whnf); try rfl) (by (conv => whnf); try rfl) ?_
        conv => whnf
        refine ⟨rfl, ?_⟩
        conv => whnf
        refine ACalls.useE (ref20_high _ _ _ _ _ _ _ _ _ _ _ _ ?_) [] rfl (by (conv => whnf); try rfl) (by (conv => whnf); try rfl) ?_
        · exact oko.v
        conv => whnf
        refine Bif.knF ?_ fun h0 => ?_
        · (simp; done)
        conv => whnf
        refine ACalls.useE (pot_high _ _ _ _ _ _ _ _ _ _ _ _) [1] rfl (by (conv => whnf); try rfl) (by (conv => whnf); try rfl) ?_
        conv => whnf
        refine ⟨rfl, ?_⟩
        conv => whnf
        refine ACalls.useE (ref20_high _ _ _ _ _ _ _ _ _ _ _ _ ?_) [] rfl (by (conv => whnf); try rfl) (by (conv => whnf); try rfl) ?_
        · exact oko.v
        conv => whnf
        refine Bif.knF ?_ fun h1 => ?_
        · (simp; done)
        conv => whnf
        refine ACalls.useE (pot_high _ _ _ _ _ _ _ _ _ _ _ _) [1] rfl (by (conv => whnf); try rfl) (by (conv => whnf); try rfl) ?_
        conv => whnf
        refine ⟨rfl, ?_⟩
        conv => whnf
        refine ACalls.useE (ref20_high _ _ _ _ _ _ _ _ _ _ _ _ ?_) [] rfl (by (conv => whnf); try rfl) (by (conv => whnf); try rfl) ?_
        · exact oko.v
        conv => whnf
        refine Bif.knF ?_ fun h2 => ?_
        · (simp; done)
        conv => whnf
        refine ACalls.useE (pot_high _ _ _ _ _ _ _ _ _ _ _ _) [1] rfl (by (conv => whnf); try rfl) (by (conv => whnf); try rfl) ?_
        conv => whnf
        refine ⟨rfl, ?_⟩
        conv => whnf
        refine ACalls.useE (ref20_high _ _ _ _ _ _ _ _ _ _ _ _ ?_) [] rfl (by (conv => whnf); try rfl) (by (conv => whnf); try rfl) ?_
        · exact oko.v
        conv => whnf
        refine Bif.knF ?_ fun h3 => ?_
        · (simp; done)
        conv => whnf
        refine ACalls.useE (pot_high _ _ _ _ _ _ _ _ _ _ _ _) [1] rfl (by (conv => whnf); try rfl) (by (conv => whnf); try rfl) ?_
        conv => whnf
        refine ⟨rfl, ?_⟩
        conv => whnf
        refine ACalls.useE (ref20_high _ _ _ _ _ _ _ _ _ _ _ _ ?_) [] rfl (by (conv => whnf); try rfl) (by (conv => whnf); try rfl) ?_
        · exact oko.v
        conv => whnf
        refine Bif.knF ?_ fun h4 => ?_
        · (simp; done)
        conv => whnf
        refine ACalls.useE (pot_high _ _ _ _ _ _ _ _ _ _ _ _) [1] rfl (by (conv => whnf); try rfl) (by (conv => whnf); try rfl) ?_
        conv => whnf
        refine ⟨rfl, ?_⟩
        conv => whnf
        refine ACalls.useE (ref20_high _ _ _ _ _ _ _ _ _ _ _ _ ?_) [] rfl (by (conv => whnf); try rfl) (by (conv => whnf); try rfl) ?_
        · exact oko.v
        conv => whnf
        refine Bif.knF ?_ fun h5 => ?_
        · (simp; done)
        conv => whnf
        refine ACalls.useE (pot_high _ _ _ _ _ _ _ _ _ _ _ _) [1] rfl (by (conv => whnf); try rfl) (by (conv => whnf); try rfl) ?_
        conv => whnf
        refine ⟨rfl, ?_⟩
        conv => whnf
        refine ACalls.useE (ref20_high _ _ _ _ _ _ _ _ _ _ _ _ ?_) [] rfl (by (conv => whnf); try rfl) (by (conv => whnf); try rfl) ?_
        · exact oko.v
        conv => whnf
        refine ACalls.useE (pot_words _ _ _ _ _ _ _ _ _ _ _ ?_) [1] rfl (by (conv => whnf); try rfl) (by (conv => whnf); try rfl) ?_
        · exact oko.v
        conv => whnf
        refine ⟨rfl, ?_⟩
        conv => whnf
        refine ACalls.useE (ref20_words _ _ _ _ _ _ _ _ _ _ _) [] rfl (by (conv => whnf); try rfl) (by (conv => whnf); try rfl) ?_
        conv => whnf
        refine Bif.knF ?_ fun h6 => ?_
        · (simp; done)
        conv => whnf
        refine Bif.knF ?_ fun h7 => ?_
        · with_reducible assumption
        conv => whnf
        refine Bif.knF ?_ fun h8 => ?_
        · with_reducible assumption
        conv => whnf
        refine Bif.knF ?_ fun h9 => ?_
        · with_reducible assumption
        conv => whnf
        refine Bif.knF ?_ fun h10 => ?_
        · with_reducible assumption
        conv => whnf
        refine Bif.knF ?_ fun h11 => ?_
        · with_reducible assumption
        conv => whnf
        refine Bif.knF ?_ fun h12 => ?_
        · with_reducible assumption
        conv => whnf
        refine ACalls.useE (pot_high _ _ _ _ _ _ _ _ _ _ _ _) [1] rfl (by (conv => whnf); try rfl) (by (conv => whnf); try rfl) ?_
        conv => whnf
        refine ⟨rfl, ?_⟩
        conv => whnf
        refine ⟨rfl, ?_⟩
        conv => whnf
        refine Bif.knF ?_ fun h13 => ?_
        · with_reducible assumption
        conv => whnf
        refine ACalls.useE (ref20_high _ _ _ _ _ _ _ _ _ _ _ _ ?_) [] rfl (by (conv => whnf); try rfl) (by (conv => whnf); try rfl) ?_
        · exact oko.v
        conv => whnf
        refine Bif.knF ?_ fun h14 => ?_
        · with_reducible assumption
        conv => whnf
        refine Bif.knF ?_ fun h15 => ?_
        · with_reducible assumption
        conv => whnf
        refine Bif.knF ?_ fun h16 => ?_
        · (simp; done)
        conv => whnf
        (rw [e2]; exact hR (s.1 + 1, PS.of w0 w1 w2 w3 w4 w5 w6 w7 w8 w9 w10) _ _ _ rfl rfl ⟨hlt, oko⟩ (by show len - (s.1 + 1) < len - s.1; omega))
      | false =>
        conv => whnf
        refine Req.of ?_ ?_
        · (clear hR; simp; omega)
        conv => whnf
        refine slc_ex s.1 0 hlt (by decide) (by rw [hEi]; rfl) (by first | omega | (simp; done)) ?_
        conv => whnf
        refine slc_ex s.1 1 hlt (by decide) (by rw [hEi]; rfl) (by first | omega | (simp; done)) ?_
        conv => whnf
        refine slc_ex s.1 2 hlt (by decide) (by rw [hEi]; rfl) (by first | omega | (simp; done)) ?_
        conv => whnf
        refine slc_ex s.1 3 hlt (by decide) (by rw [hEi]; rfl) (by first | omega | (simp; done)) ?_
        conv => whnf
        refine slc_ex s.1 4 hlt (by decide) (by rw [hEi]; rfl) (by first | omega | (simp; done)) ?_
        conv => whnf
        refine slc_ex s.1 5 hlt (by decide) (by rw [hEi]; rfl) (by first | omega | (simp; done)) ?_
        conv => whnf
        refine slc_ex s.1 6 hlt (by decide) (by rw [hEi]; rfl) (by first | omega | (simp; done)) ?_
        conv => whnf
        refine slc_ex s.1 7 hlt (by decide) (by rw [hEi]; rfl) (by first | omega | (simp; done)) ?_
        conv => whnf
        refine slc_ex s.1 8 hlt (by decide) (by rw [hEi]; rfl) (by first | omega | (simp; done)) ?_
        conv => whnf
        refine slc_ex s.1 9 hlt (by decide) (by rw [hEi]; rfl) (by first | omega | (simp; done)) ?_
        conv => whnf
        refine slc_ex s.1 10 hlt (by decide) (by rw [hEi]; rfl) (by first | omega | (simp; done)) ?_
        conv => whnf
        refine slc_ex s.1 11 hlt (by decide) (by rw [hEi]; rfl) (by first | omega | (simp; done)) ?_
        conv => whnf
        refine slc_ex s.1 12 hlt (by decide) (by rw [hEi]; rfl) (by first | omega | (simp; done)) ?_
        conv => whnf
        refine slc_ex s.1 13 hlt (by decide) (by rw [hEi]; rfl) (by first | omega | (simp; done)) ?_
        conv => whnf
        refine slc_ex s.1 14 hlt (by decide) (by rw [hEi]; rfl) (by first | omega | (simp; done)) ?_
        conv => whnf
        refine slc_ex s.1 15 hlt (by decide) (by rw [hEi]; rfl) (by first | omega | (simp; done)) ?_
        conv => whnf
        rw [hK]
        conv => whnf
        refine ACalls.useE (pot_set _ _ _ _ _ _ _ _ _ _ _ _ _ _ _ _ _ _ _ _ _ _) [1] rfl (by (conv => whnf); try rfl) (by (conv => whnf); try rfl) ?_
        conv => whnf
        refine ACalls.useE (ref20_right _ _ _ _ _ _ _ _ _ _ _) [] rfl (by (conv => whnf); try rfl) (by (conv => whnf); try rfl) ?_
        conv => whnf
        rw [ho]
        conv => whnf
        refine ALoop.run 10 ?_
        conv => whnf
        refine ACalls.useE (pot_high _ _ _ _ _ _ _ _ _ _ _ _) [1] rfl (by (conv => whnf); try rfl) (by (conv => whnf); try rfl) ?_
        conv => whnf
        refine ⟨rfl, ?_⟩
        conv => whnf
        refine ACalls.useE (ref20_high _ _ _ _ _ _ _ _ _ _ _ _ ?_) [] rfl (by (conv => whnf); try rfl) (by (conv => whnf); try rfl) ?_
        · exact hok.v
        conv => whnf
        refine ACalls.useE (pot_high _ _ _ _ _ _ _ _ _ _ _ _) [1] rfl (by (conv => whnf); try rfl) (by (conv => whnf); try rfl) ?_
        conv => whnf
        refine ⟨rfl, ?_⟩
        conv => whnf
        refine ACalls.useE (ref20_high _ _ _ _ _ _ _ _ _ _ _ _ ?_) [] rfl (by (conv => whnf); try rfl) (by (conv => whnf); try rfl) ?_
        · exact hok.v
        conv => whnf
        refine Bif.knF ?_ fun h0 => ?_
        · (simp; done)
        conv => whnf
        refine ACalls.useE (pot_high _ _ _ _ _ _ _ _ _ _ _ _) [1] rfl (by (conv => whnf); try rfl) (by (conv => whnf); try rfl) ?_
        conv => whnf
        refine ⟨rfl, ?_⟩
        conv => whnf
        refine ACalls.useE (ref20_high _ _ _ _ _ _ _ _ _ _ _ _ ?_) [] rfl (by (conv => whnf); try rfl) (by (conv => whnf); try rfl) ?_
        · exact hok.v
        conv => whnf
        refine Bif.knF ?_ fun h1 => ?_
        · (simp; done)
        conv => whnf
        refine ACalls.useE (pot_high _ _ _ _ _ _ _ _ _ _ _ _) [1] rfl (by (conv => whnf); try rfl) (by (conv => whnf); try rfl) ?_
        conv => whnf
        refine ⟨rfl, ?_⟩
        conv => whnf
        refine ACalls.useE (ref20_high _ _ _ _ _ _ _ _ _ _ _ _ ?_) [] rfl (by (conv => whnf); try rfl) (by (conv => whnf); try rfl) ?_
        · exact hok.v
        conv => whnf
        refine Bif.knF ?_ fun h2 => ?_
        · (simp; done)
        conv => whnf
        refine ACalls.useE (pot_high _ _ _ _ _ _ _ _ _ _ _ _) [1] rfl (by (conv => whnf); try rfl) (by (conv => whnf); try rfl) ?_
        conv => whnf
        refine ⟨rfl, ?_⟩
        conv => whnf
        refine ACalls.useE (ref20_high _ _ _ _ _ _ _ _ _ _ _ _ ?_) [] rfl (by (conv => whnf); try rfl) (by (conv => whnf); try rfl) ?_
        · exact hok.v
        conv => whnf
        refine Bif.knF ?_ fun h3 => ?_
        · (simp; done)
        conv => whnf
        refine ACalls.useE (pot_high _ _ _ _ _ _ _ _ _ _ _ _) [1] rfl (by (conv => whnf); try rfl) (by (conv => whnf); try rfl) ?_
        conv => whnf
        refine ⟨rfl, ?_⟩
        conv => whnf
        refine ACalls.useE (ref20_high _ _ _ _ _ _ _ _ _ _ _ _ ?_) [] rfl (by (conv => whnf); try rfl) (by (conv => whnf); try rfl) ?_
        · exact hok.v
        conv => whnf
        refine Bif.knF ?_ fun h4 => ?_
        · (simp; done)
        conv => whnf
        refine ACalls.useE (pot_high _ _ _ _ _ _ _ _ _ _ _ _) [1] rfl (by (conv => whnf); try rfl) (by (conv => whnf); try rfl) ?_
        conv => whnf
        refine ⟨rfl, ?_⟩
        conv => whnf
        refine ACalls.useE (ref20_high _ _ _ _ _ _ _ _ _ _ _ _ ?_) [] rfl (by (conv => whnf); try rfl) (by (conv => whnf); try rfl) ?_
        · exact hok.v
        conv => whnf
        refine Bif.knF ?_ fun h5 => ?_
        · (simp; done)
        conv => whnf
        refine ACalls.useE (pot_high _ _ _ _ _ _ _ _ _ _ _ _) [1] rfl (by (conv => whnf); try rfl) (by (conv => whnf); try rfl) ?_
        conv => whnf
        refine ⟨rfl, ?_⟩
        conv => whnf
        refine ACalls.useE (ref20_high _ _ _ _ _ _ _ _ _ _ _ _ ?_) [] rfl (by (conv => whnf); try rfl) (by (conv => whnf); try rfl) ?_
        · exact hok.v
        conv => whnf
        refine ACalls.useE (pot_words _ _ _ _ _ _ _ _ _ _ _ ?_) [1] rfl (by (conv => whnf); try rfl) (by (conv => whnf); try rfl) ?_
        · exact hok.v
        conv => whnf
        refine ⟨rfl, ?_⟩
        conv => whnf
        refine ACalls.useE (ref20_words _ _ _ _ _ _ _ _ _ _ _) [] rfl (by (conv => whnf); try rfl) (by (conv => whnf); try rfl) ?_
        conv => whnf
        refine Bif.knF ?_ fun h6 => ?_
        · (simp; done)
        conv => whnf
        refine Bif.knF ?_ fun h7 => ?_
        · with_reducible assumption
        conv => whnf
        refine Bif.knF ?_ fun h8 => ?_
        · with_reducible assumption
        conv => whnf
        refine Bif.knF ?_ fun h9 => ?_
        · with_reducible assumption
        conv => whnf
        refine Bif.knF ?_ fun h10 => ?_
        · with_reducible assumption
        conv => whnf
        refine Bif.knF ?_ fun h11 => ?_
        · with_reducible assumption
        conv => whnf
        refine Bif.knF ?_ fun h12 => ?_
        · with_reducible assumption
        conv => whnf
        refine ACalls.useE (pot_high _ _ _ _ _ _ _ _ _ _ _ _) [1] rfl (by (conv => whnf); try rfl) (by (conv => whnf); try rfl) ?_
        conv => whnf
        refine ⟨rfl, ?_⟩
        conv => whnf
        refine ⟨rfl, ?_⟩
        conv => whnf
        refine Bif.knF ?_ fun h13 => ?_
        · with_reducible assumption
        conv => whnf
        refine ACalls.useE (ref20_high _ _ _ _ _ _ _ _ _ _ _ _ ?_) [] rfl (by (conv => whnf); try rfl) (by (conv => whnf); try rfl) ?_
        · exact hok.v
        conv => whnf
        refine Bif.knF ?_ fun h14 => ?_
        · with_reducible assumption
        conv => whnf
        refine Bif.knF ?_ fun h15 => ?_
        · with_reducible assumption
        conv => whnf
        refine Bif.knF ?_ fun h16 => ?_
        · (simp; done)
        conv => whnf
        (rw [e2]; exact hR (s.1 + 1, s.2) _ _ _ rfl rfl ⟨hlt, hok⟩ (by show len - (s.1 + 1) < len - s.1; omega))
  · conv => whnf
    refine ACalls.useE (awake20) [] rfl (by (conv => whnf); try rfl) (by (conv => whnf); try rfl) ?_
    conv => whnf
    refine ⟨rfl, ?_⟩
    conv => whnf
theorem walk_PotPlays_nil : ACalls Try.prog 5 [.slice none 0 0] [] fun v _ => v = .bool true := by
  refine ACalls.code tabOk h5 Try.func5 Try.call5 ok5 ?_
  conv => whnf
  refine ACalls.useE (pot_new) [] rfl (by (conv => whnf); try rfl) (by (conv => whnf); try rfl) ?_
  conv => whnf
  refine ACalls.useE (ref20_new) [] rfl (by (conv => whnf); try rfl) (by (conv => whnf); try rfl) ?_
  conv => whnf
  refine ALoop.run 1 ?_
  conv => whnf
  refine ACalls.useE (awake20) [] rfl (by (conv => whnf); try rfl) (by (conv => whnf); try rfl) ?_
  conv => whnf
end Go.Proofs
