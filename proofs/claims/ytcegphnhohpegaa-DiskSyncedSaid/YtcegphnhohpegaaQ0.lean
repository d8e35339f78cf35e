/- A region that draws its order, whose calls may make memory, and whose values hang on no new memory: one walk in the order of the text. -/
import Derived.Test.YtcegphnhohpegaaA0
set_option linter.unusedVariables false
set_option linter.unusedSimpArgs false
namespace Go.Proofs.Ytcegphnhohpegaa
open Go.RowKit

/-- A world in which everything that was there is as it was. -/
def Ext (w : World) : Type := { x : World // Below w.heap.size w x }
instance (w : World) : Nonempty (Ext w) := ⟨⟨w, Below.refl _ _⟩⟩
def Ext.w {w : World} (k : Ext w) : World := k.1
theorem Ext.bel {w : World} (k : Ext w) : Below w.heap.size w k.w := k.2
theorem Bs.ext {w : World} {A : Option Addr} {n c : Nat} {xs : List UInt8} (h : Bs w A n c xs) (k : Ext w) : Bs k.w A n c xs := h.below k.bel
theorem cell_ext {w : World} {a : Addr} {v : Value} (h : w.cell? a = some v) : ∀ k : Ext w, k.w.cell? a = some v := fun k => cell_below k.bel h
theorem wp_region_ext {P : Program} {id : Nat} {Q : Exit → Act → World → Prop} {a : Act} {w : World} {l : List Oper} (hm : P.follows .mixedOrders = true) (hB : Region.lexB .any l.toArray = true)
    (h : wpQuiet P l.toArray (fun w' => ∃ k : Ext w, w' = k.w) (fun a' => ∀ w', (∃ k : Ext w, w' = k.w) → Q .normal a' w') l a) : (Code.region id l.toArray true).wp P Q a w :=
  wp_region_quiet (C := fun w' => ∃ k : Ext w, w' = k.w) hm hB ⟨⟨w.drew, below_drew (Below.refl _ _)⟩, rfl⟩ (by simpa using h)
theorem Calls.ext_of {P : Program} {f : FuncId} {args : Array Value} {w : World} {k : Ext w} {v : Value} (h : Calls P f args k.w fun e w' => e = .returned v ∧ Below k.w.heap.size k.w w') :
    Calls P f args k.w fun e w'' => e = .returned v ∧ ∃ k' : Ext w, w'' = k'.w :=
  h.mono fun _ w' ⟨he, hb⟩ => ⟨he, ⟨w', below_then k.bel k.bel.size hb⟩, rfl⟩
theorem Calls.ext_same {P : Program} {f : FuncId} {args : Array Value} {w : World} {k : Ext w} {v : Value} (h : Calls P f args k.w fun e w' => e = .returned v ∧ k.w = w') :
    Calls P f args k.w fun e w'' => e = .returned v ∧ ∃ k' : Ext w, w'' = k'.w :=
  h.mono fun _ w' ⟨he, hb⟩ => ⟨he, k, hb.symm⟩
theorem Calls.ext_drew {P : Program} {f : FuncId} {args : Array Value} {w : World} {k : Ext w} {v : Value} (h : Calls P f args k.w fun e w' => e = .returned v ∧ ∃ m, w' = k.w.drewN m) :
    Calls P f args k.w fun e w'' => e = .returned v ∧ ∃ k' : Ext w, w'' = k'.w :=
  h.mono fun _ w' ⟨he, m, hb⟩ => ⟨he, ⟨w', by rw [hb]; exact below_drawn k.bel m⟩, rfl⟩

end Go.Proofs.Ytcegphnhohpegaa
