/- The walk of meta's own small example. The walk of MetaChooses. The walk of MetaEncodes. The walk of MetaNewer. -/
import Derived.Test.YthhalmjapiempaaZA
import Derived.Test.YthhalmjapiempaaZB
set_option linter.unusedVariables false
set_option linter.unusedSimpArgs false
namespace Go.Proofs.Ythhalmjapiempaa
open Go.RowKit

theorem Ow.gb {w : World} {base g n c : Nat} {xs : List UInt8} (h : Ow w base (some ⟨g, 0, none⟩) (n + 1) c xs) : base ≤ g := by
  obtain ⟨k, e, h1, _, _⟩ := h.head (by omega)
  injection e with e
  injection e with e
  omega
theorem Ow.fr {w : World} {base g n c : Nat} {xs : List UInt8} (h : Ow w base (some ⟨g, 0, none⟩) (n + 1) c xs) (j : Nat) : w.frozen? ⟨g, j, none⟩ = false := by
  obtain ⟨k, e, _, _, h3⟩ := h.head (by omega)
  injection e with e
  injection e with e
  rw [e]
  exact h3 j
end Go.Proofs.Ythhalmjapiempaa

set_option linter.unusedVariables false
set_option linter.unusedSimpArgs false
namespace Go.Proofs.Ythhalmjapiempaa
open Go.RowKit

/-- Two metas, one of either kind, in their boxes. -/
structure T2 (w : World) (gm : Nat) (u : Array Value) (gn : Nat) (v : Array Value) (W : World) : Prop where
  bel : Below w.heap.size w W
  ra : W.heap[gm]? = some (.cells u 36)
  rb : W.heap[gn]? = some (.cells v 24)
theorem T2.step {w W W1 : World} {gm gn : Nat} {u v : Array Value} (h : T2 w gm u gn v W) (hB : Below W.heap.size W W1) : T2 w gm u gn v W1 :=
  ⟨below_then h.bel h.bel.size hB, (hB.block _ (Array.getElem?_eq_some_iff.1 h.ra).1).trans h.ra, (hB.block _ (Array.getElem?_eq_some_iff.1 h.rb).1).trans h.rb⟩
end Go.Proofs.Ythhalmjapiempaa

set_option linter.unusedVariables false
set_option linter.unusedSimpArgs false
namespace Go.Proofs.Ythhalmjapiempaa
open Go.RowKit

end Go.Proofs.Ythhalmjapiempaa

set_option linter.unusedVariables false
set_option linter.unusedSimpArgs false
namespace Go.Proofs.Ythhalmjapiempaa
open Go.RowKit

/-- What stands: boxes, and slices of bytes. -/
structure H9 (w : World) (L : List (Nat × Array Value × TypeId)) (B : List (Option Addr × Nat × Nat × List UInt8)) (W : World) : Prop where
  bel : Below w.heap.size w W
  rows : ∀ p, p ∈ L → W.heap[p.1]? = some (.cells p.2.1 p.2.2)
  bs : ∀ q, q ∈ B → Bs W q.1 q.2.1 q.2.2.1 q.2.2.2
theorem H9.step {w W W1 : World} {L : List (Nat × Array Value × TypeId)} {B : List (Option Addr × Nat × Nat × List UInt8)} (h : H9 w L B W) (hB : Below W.heap.size W W1) : H9 w L B W1 :=
  ⟨below_then h.bel h.bel.size hB, fun p hp => (hB.block _ (Array.getElem?_eq_some_iff.1 (h.rows p hp)).1).trans (h.rows p hp), fun q hq => (h.bs q hq).below hB⟩
theorem H9.add {w W : World} {L : List (Nat × Array Value × TypeId)} {B : List (Option Addr × Nat × Nat × List UInt8)} (h : H9 w L B W) (u : Array Value) (T : TypeId) : H9 w ((W.heap.size, u, T) :: L) B (W.alloc (.cells u T)) := by
  have k := h.step ((Below.refl _ W).alloc (Nat.le_refl _) (.cells u T))
  refine ⟨k.bel, fun p hp => ?_, k.bs⟩
  rcases List.mem_cons.1 hp with rfl | hp
  · exact heap_alloc_new W _
  · exact k.rows p hp
theorem H9.byt {w W : World} {L : List (Nat × Array Value × TypeId)} {B : List (Option Addr × Nat × Nat × List UInt8)} (h : H9 w L B W) {A : Option Addr} {n c : Nat} {xs : List UInt8} (hb : Bs W A n c xs) : H9 w L ((A, n, c, xs) :: B) W :=
  ⟨h.bel, h.rows, fun q hq => by
    rcases List.mem_cons.1 hq with rfl | hq
    · exact hb
    · exact h.bs q hq⟩
end Go.Proofs.Ythhalmjapiempaa
