/-
  code.Of, walked.
-/
import Derived.Test.YtmdiokmkokjpiaaDoorKqc
import Derived.Test.YtmdiokmkokjpiaaDoorBaseQ
import Derived.Laws.DeepStrings4
import Derived.Deep.RegionWith
set_option linter.all false
set_option linter.unusedVariables false
set_option linter.unusedSimpArgs false
set_option linter.unnecessarySimpa false
namespace Go.Proofs
open Go.RowKit Go.Maps Go.WideMaps
set_option maxRecDepth 100000
theorem idx50 (l : List ByteArray) (hl : l.length = 16) (j : Nat) (hj : j < 16) {s : ByteArray} (hs : l[j]? = some s) (W : World) : (Instr.index 50 (.agg (l.map Value.string).toArray) (.int .i64 (j : Int))).run Tryd.prog W = .ok (.string s) W := by
  have h1 : (part 9 (l.map Value.string).toArray j).run Tryd.prog W = .ok (.string s) W := run_part_plain W (by kernel_rfl) (by rw [List.getElem?_toArray, List.getElem?_map, hs]; rfl)
  have h2 : (underlying 50).run Tryd.prog W = .ok (.array 16 9) W := run_underlying Tryd.underlying50 W
  have h3 : (sizeOf 9).run Tryd.prog W = .ok 1 W := Tryd.sizeOf9 W
  simp [Instr.index, h2, asIntOf, hj, h3, h1]
theorem slice9 (R : ByteArray) (a b : Int) (h : 0 ≤ a ∧ a ≤ b ∧ b ≤ R.size) (W : World) : (Instr.slice 9 (.string R) (some (.int .i64 a)) (some (.int .i64 b)) none).run Tryd.prog W = .ok (.string (R.extract a.toNat b.toNat)) W := by
  rw [run_slice_string_if W 9 R .i64 .i64 a b Tryd.underlying9, if_pos (by omega), if_pos (by omega)]
theorem of_new {w w' : World} {a b c d : Value} {t : TypeId} (h : Below (w.alloc (.cells #[a, b, c, d] t)).heap.size (w.alloc (.cells #[a, b, c, d] t)) w') :
    w'.cell? ⟨w.heap.size, 0, none⟩ = some a ∧ w'.cell? ⟨w.heap.size, 1, none⟩ = some b ∧ w'.cell? ⟨w.heap.size, 2, none⟩ = some c ∧ w'.cell? ⟨w.heap.size, 3, none⟩ = some d ∧
    w'.frozen? ⟨w.heap.size, 0, none⟩ = false ∧ w'.frozen? ⟨w.heap.size, 1, none⟩ = false ∧ w'.frozen? ⟨w.heap.size, 2, none⟩ = false ∧ w'.frozen? ⟨w.heap.size, 3, none⟩ = false := by
  have hh : w'.heap[w.heap.size]? = some (.cells #[a, b, c, d] t) := (h.block _ (by simp)).trans (MapKept.heap_alloc w _).1
  simp [World.cell?, World.frozen?, hh]
/-- The kind that a name has by itself. -/
def kindN (s : ByteArray) : Int := (kindT s.data.toList).getD 0
def kindB (s : ByteArray) : Bool := (kindT s.data.toList).isSome
theorem Tryd.zero29 (w : World) : (zeroValue 29).run Tryd.prog w = .ok (.int .u8 0) w := by kernel_rfl
theorem look_up {w : World} {b n : Nat} {D : DataW Unit} (h : OutM w b n D) (hK : KindD D) (s : ByteArray) (hs : s.size ≤ 100) :
    (Instr.lookup 55 (.map (some b)) (.string s) true).run Tryd.prog w = .ok (.tuple #[.int .u8 (kindN s), .bool (kindB s)]) w := by
  obtain ⟨v, ps, hrun, hv⟩ := World.ownsMap.look_ok h Tryd.law9 Tryd.underlying55 (Tryd.zero29 w) (plainElem_int (H := Unit) Tryd.underlying29 (by decide)) (keyOf_string_mk (s := s) Tryd.underlying9 (by unfold maxLen; omega))
  obtain ⟨h1, h2⟩ := hK s.data.toList
  rw [hrun, h1]
  obtain ⟨c, rfl, hc, _⟩ := plainElem_int_inv Tryd.underlying29 hv
  have hc1 := congrArg Prod.fst hc
  simp only at hc1
  unfold kindN kindB
  cases hk : kindT s.data.toList with
  | some k =>
    rw [h2 k hk] at hc1
    simp at hc1
    simp [hc1]
  | none =>
    rw [hk] at h1
    rw [atKey_of_not_has h1] at hc1
    simp at hc1
    simp [hc1]
theorem other_cell {w : World} {N o : Nat} {x v : Value} (h : w.cell? ⟨1, 0, none⟩ = some x) (hN : 1 < N) : (w.setCell ⟨N, o, none⟩ v).cell? ⟨1, 0, none⟩ = some x :=
  (World.cell?_setCell_other _ _ _ _ (by intro e; injection e; omega)).trans h
theorem below_setCell {w w' : World} {N o : Nat} {v : Value} (h : Below w.heap.size w w') (hN : w.heap.size ≤ N) : Below w.heap.size w (w'.setCell ⟨N, o, none⟩ v) := by
  refine ⟨h.os, h.tape, h.output, ?_, fun k hk => ?_⟩
  · simpa [World.setCell] using h.size
  · have : N ≠ k := by omega
    have e : (w'.setCell ⟨N, o, none⟩ v).heap[k]? = w'.heap[k]? := by simp [World.setCell, Array.getElem?_modify, this]
    exact e.trans (h.block k hk)
theorem set4 {W : World} {n : Nat} {a b c d a' b' c' d' : Value} {t : TypeId} {fr : Nat × Nat} (h : W.heap[n]? = some (.cells #[a, b, c, d] t fr)) :
    ((((W.setCell ⟨n, 0, none⟩ a').setCell ⟨n, 1, none⟩ b').setCell ⟨n, 2, none⟩ c').setCell ⟨n, 3, none⟩ d').heap[n]? = some (.cells #[a', b', c', d'] t fr) := by
  simp [World.setCell, Array.getElem?_modify, h]
theorem set_far {W : World} {n N o : Nat} {v : Value} (h : N ≠ n) : (W.setCell ⟨N, o, none⟩ v).heap[n]? = W.heap[n]? := by simp [World.setCell, Array.getElem?_modify, h]
/-- Name, mode and kind of a code. -/
def nameO (o : Nat) : ByteArray := match rowsL[o / 16]? with | some R => R.extract (3 * (o % 16)) (3 * (o % 16 + 1)) | none => .empty
def modeO (o : Nat) : Int := match modesL[o / 16]? with | some M => (if h : o % 16 < M.size then Lib.indexByte [112, 99, 109, 122, 120, 121, 97, 88, 89, 105, 106, 114, 110] M[o % 16] % 256 else 0) | none => 0
def kindV (s : ByteArray) (md : Int) : Int := if kindB s = true then kindN s else if md = 11 then 4 else if md = 0 then 0 else 1
def kindO (o : Nat) : Int := kindV (nameO o) (modeO o)
set_option maxHeartbeats 1000000 in
theorem of_c (o : Nat) (ho : o < 256) (w : World) (m : Int) (hm : w.cell? ⟨1, 0, none⟩ = some (.int .i64 m)) (htab : Lib.TabIs Tryd.prog w "strings.asciiSpace" .u8 Lib.asciiSpaceTab) :
    Calls Tryd.prog 6 #[.int .u8 o] w fun e w' => e = .returned (.agg #[.string (nameO o), .int .u8 (modeO o), .int .u8 (kindO o), .bool (knownB o (nameO o))]) ∧ Below w.heap.size w w' := by
  have cR := fun W => rows_c W
  have cM := fun W => modes_c W
  have iR : ∀ (R : ByteArray), rowsL[o / 16]? = some R → ∀ W, (Instr.index 50 (.agg (rowsL.map Value.string).toArray) (.int .i64 (o / 16))).run Tryd.prog W = .ok (.string R) W := fun R hR W => idx50 rowsL rfl (o / 16) (by omega) hR W
  have iM : ∀ (R : ByteArray), modesL[o / 16]? = some R → ∀ W, (Instr.index 50 (.agg (modesL.map Value.string).toArray) (.int .i64 (o / 16))).run Tryd.prog W = .ok (.string R) W := fun R hR W => idx50 modesL rfl (o / 16) (by omega) hR W
  obtain ⟨R, hR⟩ : ∃ R, rowsL[o / 16]? = some R := ⟨_, List.getElem?_eq_getElem (by show o / 16 < 16; omega)⟩
  obtain ⟨M, hM⟩ : ∃ R, modesL[o / 16]? = some R := ⟨_, List.getElem?_eq_getElem (by show o / 16 < 16; omega)⟩
  have hRs : R.size = 48 := by
    have h : rowsL.all (fun r => r.size == 48) = true := by decide +kernel
    simpa using List.all_eq_true.1 h R (List.mem_of_getElem? hR)
  have hMs : M.size = 16 := by
    have h : modesL.all (fun r => r.size == 16) = true := by decide +kernel
    simpa using List.all_eq_true.1 h M (List.mem_of_getElem? hM)
  have nE : nameO o = R.extract (3 * ((o : Int) % 16)).toNat (3 * ((o : Int) % 16 + 1)).toNat := by
    unfold nameO; rw [hR, show (3 * ((o : Int) % 16)).toNat = 3 * (o % 16) by omega, show (3 * ((o : Int) % 16 + 1)).toNat = 3 * (o % 16 + 1) by omega]
  have mE : modeO o = Lib.indexByte [112, 99, 109, 122, 120, 121, 97, 88, 89, 105, 106, 114, 110] (M[o % 16]'(by omega)) % 256 := by
    unfold modeO; rw [hM]; exact dif_pos (by omega)
  have iR := iR R hR
  have iM := iM M hM
  clear hR hM
  have hS := slice9 R (3 * ((o : Int) % 16)) (3 * ((o : Int) % 16 + 1)) (by omega)
  obtain ⟨nm, hnm⟩ : ∃ nm, R.extract (3 * ((o : Int) % 16)).toNat (3 * ((o : Int) % 16 + 1)).toNat = nm := ⟨_, rfl⟩
  rw [hnm] at hS nE
  obtain ⟨md, hmd⟩ : ∃ md, Lib.indexByte [112, 99, 109, 122, 120, 121, 97, 88, 89, 105, 106, 114, 110] (M[o % 16]'(by omega)) % 256 = md := ⟨_, rfl⟩
  obtain ⟨kn, hkn⟩ : ∃ kn, knownB o nm = kn := ⟨_, rfl⟩
  rw [hmd] at mE
  have kE : kindO o = kindV nm md := by unfold kindO; rw [nE, mE]
  have yE : knownB o (nameO o) = kn := by rw [nE, hkn]
  rw [kE, yE, mE, nE]
  clear nE mE kE yE
  generalize (rowsL.map Value.string).toArray = RA at cR iR
  generalize (modesL.map Value.string).toArray = MA at cM iM
  have hN1 : 1 < w.heap.size := cell_lt1 hm
  have hns : nm.size ≤ 100 := by rw [← hnm, ByteArray.size_extract]; omega
  go_enter Tryd.func6, Tryd.ntmps6
  go_wp2_with (first
    | (go_at_call 17; refine (cR _).mono ?_; rintro e w1 ⟨rfl, hb1⟩)
    | (go_at_call 19; refine (cM _).mono ?_; rintro e w2 ⟨rfl, hb2⟩; obtain ⟨q0, q1, q2, q3, f0, f1, f2, f3⟩ := of_new hb2)
    | (go_at_call 18; refine (sp_index _ _ _).mono ?_; rintro e w3 ⟨rfl, rfl⟩)
    | (go_at_call 20; fail))
  have hw1 : w.heap.size < w1.heap.size := by have := hb1.size; simp at this; omega
  have b1 : Below w.heap.size w w1 := ⟨hb1.os, hb1.tape, hb1.output, by omega, fun k hk => (hb1.block k (by simp; omega)).trans ((MapKept.heap_alloc w _).2 k hk)⟩
  have b3 : Below w.heap.size w w3 := ⟨hb2.os.trans b1.os, hb2.tape.trans b1.tape, hb2.output.trans b1.output, by have := hb2.size; simp at this; omega, fun k hk => (hb2.block k (by simp; omega)).trans (((MapKept.heap_alloc w1 _).2 k (by omega)).trans (b1.block k hk))⟩
  have m3 := MaxLen_below hm b3
  have z1 : w1.heap[w.heap.size]? = some (.cells #[.string .empty, .int .u8 0, .int .u8 0, .bool false] 31) := (hb1.block _ (by simp)).trans (MapKept.heap_alloc w _).1
  have z3 : w3.heap[w.heap.size]? = some (.cells #[.string .empty, .int .u8 0, .int .u8 0, .bool false] 31) := (hb2.block _ (by simp; omega)).trans (((MapKept.heap_alloc w1 _).2 _ hw1).trans z1)
  have t3 := tab_below htab b3
  rw [hmd]
  clear cR cM iR iM hS
  have m4 := other_cell (o := 1) (v := .int .u8 md) m3 (Nat.lt_trans hN1 hw1)
  refine (known_c o ho nm _ m m4).mono ?_
  rw [hkn]
  rintro e w4 ⟨rfl, hw4⟩
  subst hw4
  go_wp2_with (fail)
  have c0 : ((w3.setCell ⟨w1.heap.size, 1, none⟩ (.int .u8 md)).setCell ⟨w1.heap.size, 3, none⟩ (.bool kn)).cell? ⟨w1.heap.size, 0, none⟩ = some (.string nm) := by
    rw [World.cell?_setCell_other _ _ _ _ (by simp), World.cell?_setCell_other _ _ _ _ (by simp)]; exact q0
  have c1 : ((w3.setCell ⟨w1.heap.size, 1, none⟩ (.int .u8 md)).setCell ⟨w1.heap.size, 3, none⟩ (.bool kn)).cell? ⟨w1.heap.size, 1, none⟩ = some (.int .u8 md) := by
    rw [World.cell?_setCell_other _ _ _ _ (by simp)]; exact World.cell?_setCell_same _ _ _ q1
  have c2 : ((w3.setCell ⟨w1.heap.size, 1, none⟩ (.int .u8 md)).setCell ⟨w1.heap.size, 3, none⟩ (.bool kn)).cell? ⟨w1.heap.size, 2, none⟩ = some (.int .u8 0) := by
    rw [World.cell?_setCell_other _ _ _ _ (by simp), World.cell?_setCell_other _ _ _ _ (by simp)]; exact q2
  have c3 : ((w3.setCell ⟨w1.heap.size, 1, none⟩ (.int .u8 md)).setCell ⟨w1.heap.size, 3, none⟩ (.bool kn)).cell? ⟨w1.heap.size, 3, none⟩ = some (.bool kn) :=
    World.cell?_setCell_same _ _ _ (by rw [World.cell?_setCell_other _ _ _ _ (by simp)]; exact q3)
  have g2 : ((w3.setCell ⟨w1.heap.size, 1, none⟩ (.int .u8 md)).setCell ⟨w1.heap.size, 3, none⟩ (.bool kn)).frozen? ⟨w1.heap.size, 2, none⟩ = false := by
    rw [World.frozen?_setCell, World.frozen?_setCell]; exact f2
  have B5 : Below w.heap.size w ((w3.setCell ⟨w1.heap.size, 1, none⟩ (.int .u8 md)).setCell ⟨w1.heap.size, 3, none⟩ (.bool kn)) := below_setCell (below_setCell b3 (by omega)) (by omega)
  have z5 : ((w3.setCell ⟨w1.heap.size, 1, none⟩ (.int .u8 md)).setCell ⟨w1.heap.size, 3, none⟩ (.bool kn)).heap[w.heap.size]? = some (.cells #[.string .empty, .int .u8 0, .int .u8 0, .bool false] 31) := by
    have hne : w1.heap.size ≠ w.heap.size := by omega
    rw [← z3]; simp [World.setCell, Array.getElem?_modify, hne]
  have hNw : w.heap.size < w1.heap.size := hw1
  clear z1 z3 q0 q1 q2 q3 f0 f1 f2 f3 m3 t3 m4 hb1 hb2 b1 b3
  generalize (w3.setCell ⟨w1.heap.size, 1, none⟩ (.int .u8 md)).setCell ⟨w1.heap.size, 3, none⟩ (.bool kn) = W5 at *
  generalize w1.heap.size = N at *
  clear w3 w1 hmd
  have hN : N < W5.drew.heap.size := cell_lt1 c0
  have tB : Lib.TabIs Tryd.prog W5.drew "strings.asciiSpace" .u8 Lib.asciiSpaceTab := tab_below htab ⟨B5.os, B5.tape, B5.output, B5.size, B5.block⟩
  have kC := kinds_any W5.drew tB
  have e1 : W5.drew.cell? ⟨N, 0, none⟩ = some (.string nm) := c0
  go_region_with (go_at_call 21; refine kC.mono ?_; rintro e w6 ⟨b, n, D, rfl, hO, hK, hB⟩; have d0 := (hB.cell (p := ⟨N, 0, none⟩) hN).trans e1; have hlk := look_up hO hK nm hns)
  all_goals
    have hs5 : w.heap.size < W5.drew.heap.size := by omega
    have r0 := (hB.cell (p := ⟨N, 0, none⟩) hN).trans c0
    have r1 := (hB.cell (p := ⟨N, 1, none⟩) hN).trans c1
    have r2 := (hB.cell (p := ⟨N, 2, none⟩) hN).trans c2
    have r3 := (hB.cell (p := ⟨N, 3, none⟩) hN).trans c3
    have s2 := (hB.frozen (p := ⟨N, 2, none⟩) hN).trans g2
    have z6 := (hB.block _ hs5).trans z5
    have B6 : Below w.heap.size w w6 := ⟨hB.os.trans B5.os, hB.tape.trans B5.tape, hB.output.trans B5.output, Nat.le_trans B5.size hB.size, fun k hk => (hB.block k (by have := B5.size; show k < W5.heap.size; omega)).trans (B5.block k hk)⟩
    have y0 : w6.cell? ⟨w.heap.size, 0, none⟩ = some (.string .empty) := by simp [World.cell?, z6]
    have y1 : w6.cell? ⟨w.heap.size, 1, none⟩ = some (.int .u8 0) := by simp [World.cell?, z6]
    have y2 : w6.cell? ⟨w.heap.size, 2, none⟩ = some (.int .u8 0) := by simp [World.cell?, z6]
    have y3 : w6.cell? ⟨w.heap.size, 3, none⟩ = some (.bool false) := by simp [World.cell?, z6]
    have x0 : w6.frozen? ⟨w.heap.size, 0, none⟩ = false := by simp [World.frozen?, z6]
    have x1 : w6.frozen? ⟨w.heap.size, 1, none⟩ = false := by simp [World.frozen?, z6]
    have x2 : w6.frozen? ⟨w.heap.size, 2, none⟩ = false := by simp [World.frozen?, z6]
    have x3 : w6.frozen? ⟨w.heap.size, 3, none⟩ = false := by simp [World.frozen?, z6]
    have nz : N ≠ w.heap.size := by omega
    have nz' : w.heap.size ≠ N := by omega
    clear hO hK hB kC tB e1 c0 c1 c2 c3 g2 z5
  all_goals
    have fin : ∀ {kd : Int} {W : World}, W.heap[w.heap.size]? = some (.cells #[.string .empty, .int .u8 0, .int .u8 0, .bool false] 31) → Below w.heap.size w W → kindV nm md = kd → ∀ tmps : Array Value, tmps.getD 2 undef = .pointer (some ⟨w.heap.size, 0, none⟩) →
      bodyPost Tryd.prog Tryd.f6 (fun e w' => e = .returned (.agg #[.string nm, .int .u8 md, .int .u8 (kindV nm md), .bool kn]) ∧ Below w.heap.size w w') .ret ⟨tmps, []⟩
        ((((W.setCell ⟨w.heap.size, 0, none⟩ (.string nm)).setCell ⟨w.heap.size, 1, none⟩ (.int .u8 md)).setCell ⟨w.heap.size, 2, none⟩ (.int .u8 kd)).setCell ⟨w.heap.size, 3, none⟩ (.bool kn)) := by
      intro kd W hW hB hk tmps ht
      subst hk
      refine bodyPost_ret (results_cell_row rfl _ _ w.heap.size 31 _ (0, 0) _ ht (set4 hW) Tryd.underlying31 rfl (by kernel_rfl)) rfl ⟨rfl, ?_⟩
      exact below_setCell (below_setCell (below_setCell (below_setCell hB (Nat.le_refl _)) (Nat.le_refl _)) (Nat.le_refl _)) (Nat.le_refl _)
    go_wp2_with (fail)
  · refine fin (W := w6.setCell ⟨N, 2, none⟩ (.int .u8 (kindN nm))) (kd := (kindN nm)) ?_ ?_ ?_ _ ?_
    · exact (set_far nz).trans z6
    · exact below_setCell B6 (by omega)
    · unfold kindV; simp_all
    · simp
  · refine fin (W := w6.setCell ⟨N, 2, none⟩ (.int .u8 4)) (kd := 4) ?_ ?_ ?_ _ ?_
    · exact (set_far nz).trans z6
    · exact below_setCell B6 (by omega)
    · unfold kindV; simp_all
    · simp
  · refine fin (W := w6.setCell ⟨N, 2, none⟩ (.int .u8 1)) (kd := 1) ?_ ?_ ?_ _ ?_
    · exact (set_far nz).trans z6
    · exact below_setCell B6 (by omega)
    · unfold kindV; simp_all
    · simp
  · refine fin (W := w6) (kd := 0) ?_ ?_ ?_ _ ?_
    · exact z6
    · exact B6
    · unfold kindV; simp_all
    · simp
  · refine fin (W := w6.setCell ⟨N, 2, none⟩ (.int .u8 (kindN nm))) (kd := (kindN nm)) ?_ ?_ ?_ _ ?_
    · exact (set_far nz).trans z6
    · exact below_setCell B6 (by omega)
    · unfold kindV; simp_all
    · simp
  · refine fin (W := w6.setCell ⟨N, 2, none⟩ (.int .u8 4)) (kd := 4) ?_ ?_ ?_ _ ?_
    · exact (set_far nz).trans z6
    · exact below_setCell B6 (by omega)
    · unfold kindV; simp_all
    · simp
  · refine fin (W := w6.setCell ⟨N, 2, none⟩ (.int .u8 1)) (kd := 1) ?_ ?_ ?_ _ ?_
    · exact (set_far nz).trans z6
    · exact below_setCell B6 (by omega)
    · unfold kindV; simp_all
    · simp
  · refine fin (W := w6) (kd := 0) ?_ ?_ ?_ _ ?_
    · exact z6
    · exact B6
    · unfold kindV; simp_all
    · simp
end Go.Proofs
