/- A region that draws its order, whose operations read and whose calls make memory of their own: one walk in the text's order, over the class of all worlds that are as this one was below its heap's size. -/
import Derived.Deep.QuietTactic
import Derived.BigQuiet
import Derived.Below
import Derived.WalkKit
import Derived.Test.YtdgpblhmfkpblaaPg0
namespace Go.Proofs.Ytdgpblhmfkpblaa.Pg
open Go.RowKit

/-- A world that comes of w, of whose blocks none has turned. -/
def Over (w : World) : Type := { w' : World // Below w.heap.size w w' }
instance (w : World) : Nonempty (Over w) := ⟨⟨w, Below.refl _ _⟩⟩
def ov (w : World) (x : Over w) : World := x.val
theorem ov_below {w : World} (x : Over w) : Below w.heap.size w (ov w x) := x.property
theorem ov_size {w : World} (x : Over w) : w.heap.size ≤ (ov w x).heap.size := (ov_below x).size
theorem ov_cell {w : World} {b o : Nat} {v : Value} (hb : b < w.heap.size) (h : w.cell? ⟨b, o, none⟩ = some v) : ∀ x : Over w, (ov w x).cell? ⟨b, o, none⟩ = some v :=
  fun x => by rw [(ov_below x).cell (p := ⟨b, o, none⟩) hb, h]

theorem ov_row {w : World} {b : Nat} {cs : Array Value} {T : TypeId} {fr : Nat × Nat} (h : w.heap[b]? = some (.cells cs T fr)) (i : Nat) {v : Value} (hv : cs[i]? = some v) :
    ∀ x : Over w, (ov w x).cell? ⟨b, i, none⟩ = some v :=
  ov_cell (Array.getElem?_eq_some_iff.1 h).1 ((cell_of_row w b i cs T fr h).trans hv)
theorem below_row {B : Nat} {w w' : World} {b : Nat} {o : Obj} (hb : Below B w w') (h : w.heap[b]? = some o) (hlt : b < B) : w'.heap[b]? = some o := (hb.block b hlt).trans h
theorem new_row (w : World) (o : Obj) : (w.alloc o).heap[w.heap.size]? = some o := heap_alloc_new w o
theorem old_row {w : World} {b : Nat} {o o' : Obj} (h : w.heap[b]? = some o') : (w.alloc o).heap[b]? = some o' := by
  rw [heap_alloc_old w o (Array.getElem?_eq_some_iff.1 h).1]; exact h
theorem calls_over {P : Program} {f : FuncId} {args : Array Value} {w : World} {x : Over w} {v : Value}
    (h : Calls P f args (ov w x) fun e w' => e = .returned v ∧ Below (ov w x).heap.size (ov w x) w') : Calls P f args (ov w x) fun e w'' => e = .returned v ∧ ∃ y : Over w, w'' = ov w y :=
  h.mono fun _ w' ⟨he, hb⟩ => ⟨he, ⟨w', (ov_below x).trans (hb.mono (ov_size x))⟩, rfl⟩
theorem calls_over_same {P : Program} {f : FuncId} {args : Array Value} {w : World} {x : Over w} {v : Value}
    (h : Calls P f args (ov w x) fun e w' => e = .returned v ∧ w' = ov w x) : Calls P f args (ov w x) fun e w'' => e = .returned v ∧ ∃ y : Over w, w'' = ov w y :=
  h.mono fun _ _ ⟨he, hb⟩ => ⟨he, x, hb⟩

theorem wp_region_over_lit {P : Program} {id : Nat} {Q : Exit → Act → World → Prop} {a : Act} {w : World} {l : List Oper} (hm : P.follows .mixedOrders = true) (hB : Region.lexB .any l.toArray = true)
    (h : wpQuiet P l.toArray (fun w' => ∃ x : Over w, w' = ov w x) (fun a' => ∀ w', (∃ x : Over w, w' = ov w x) → Q .normal a' w') l a) : (Code.region id l.toArray true).wp P Q a w :=
  wp_region_quiet (C := fun w' => ∃ x : Over w, w' = ov w x) hm hB ⟨⟨_, (Below.refl _ _).drew⟩, rfl⟩ (by simpa using h)
end Go.Proofs.Ytdgpblhmfkpblaa.Pg
