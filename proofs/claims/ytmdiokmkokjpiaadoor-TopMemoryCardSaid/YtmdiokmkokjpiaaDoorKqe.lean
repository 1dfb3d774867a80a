/-
  code.Of as a contract over named heaps; a memory as a function of its places.
-/
import Derived.Test.YtmdiokmkokjpiaaDoorKqd
import Derived.Test.YtmdiokmkokjpiaaDoorCoreE
set_option linter.all false
set_option linter.unusedVariables false
set_option linter.unusedSimpArgs false
set_option linter.unnecessarySimpa false
namespace Go.Aw
open Go.RowKit
variable [Base]
variable {P : Program} {T : Tab}
theorem Rel.below {μ : List Nat} {H : List Blk} {w w' : World} (h : Rel μ H w) (hb : Below w.heap.size w w') : Rel μ H w' := by
  refine ⟨h.len, h.nd, fun b hm => Nat.lt_of_lt_of_le (h.lt b hm) hb.size, fun i b c e hH hμ => ?_, fun i b f hH hμ o v ho => ?_, ⟨h.base.hi, Nat.le_trans h.base.le hb.size, fun k hk => ?_⟩⟩
  · obtain ⟨c', h1, h2⟩ := h.blk i b c e hH hμ
    exact ⟨c', (hb.block b (h.lt b (List.mem_of_getElem? hμ))).trans h1, h2⟩
  · obtain ⟨v', h1, h2⟩ := h.rob i b f hH hμ o v ho
    exact ⟨v', (hb.cell (p := ⟨b, o, none⟩) (h.lt b (List.mem_of_getElem? hμ))).trans h1, h2⟩
  · exact (hb.block k (Nat.lt_of_lt_of_le hk h.base.le)).trans (h.base.eq k hk)
theorem Ext.below {μ : List Nat} {H : List Blk} {w w' : World} (hb : Below w.heap.size w w') : Ext μ H w μ H w' :=
  ⟨⟨[], by simp, by simp⟩, hb.size, hb.os, hb.tape, hb.output, fun b hlt _ => hb.block b hlt, fun i c e _ h => ⟨c, e, h⟩⟩
/-- A contract of a function that turns nothing, over worlds, as one over named heaps. -/
theorem ACalls.ofBelow {f : FuncId} {args : List Value} {H : List Blk} {v : Value} (hargs : ∀ μ c, VRs μ args c → c = args) (hv : ∀ μ, VR μ v v)
    (hcall : ∀ (a : Array Value) (w : World), (callFunc f a).run P w = .ok (.enter f a) w)
    (h : ∀ w : World, Base.W.heap.size ≤ w.heap.size → (∀ k, k < Base.W.heap.size → w.heap[k]? = Base.W.heap[k]?) → Calls P f args.toArray w fun e w' => e = .returned v ∧ Below w.heap.size w w') :
    ACalls P f args H fun r H' => r = v ∧ H' = H := by
  refine ⟨fun μ w cargs hva hr => ?_⟩
  obtain rfl := hargs μ cargs hva
  refine ⟨hcall _ w, (h w hr.base.le hr.base.eq).mono ?_⟩
  rintro e w' ⟨he, hb⟩
  exact ⟨v, v, μ, H, he, hv μ, hr.below hb, Ext.below hb, rfl, rfl⟩
end Go.Aw
namespace Go.Proofs
open Go.Aw Go.RowKit
/-- What the law's first world has. -/
class Door [Base] : Prop where
  tab : Lib.TabIs Tryd.prog Base.W "strings.asciiSpace" .u8 Lib.asciiSpaceTab
  max : ∃ m, Base.W.cell? ⟨1, 0, none⟩ = some (.int .i64 m)
variable [Base] [Door]
theorem of_a (o : Nat) (ho : o < 256) (H : List Blk) : ACalls Tryd.prog 6 [.int .u8 o] H fun r H' => r = .agg #[.string (nameO o), .int .u8 (modeO o), .int .u8 (kindO o), .bool (knownB o (nameO o))] ∧ H' = H := by
  refine ACalls.ofBelow ?_ ?_ Tryd.call6 ?_
  · intro μ c h
    obtain ⟨h1, h2⟩ := h
    match c, h1 with
    | [x], _ =>
      have := h2 0 (.int .u8 o) x rfl rfl
      cases this; rfl
  · intro μ
    exact VR.aggs (VRs.cons (.str _) (VRs.cons (.int _ _) (VRs.cons (.int _ _) (VRs.cons (.bool _) VRs.nil))))
  · intro w hle heq
    obtain ⟨m, hm⟩ := Door.max
    have h1 : 1 < Base.W.heap.size := cell_lt1 hm
    exact of_c o ho w m ((cell?_of_heap_eq (heq 1 h1) 0).trans hm) (tab_heap Door.tab fun h0 => heq 0 h0)
end Go.Proofs
