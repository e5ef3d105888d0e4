/- A node of one's own beside the parser. -/
import Derived.Test.YticbjhicjegfoaaQn
namespace Go.Proofs.Yticbjhicjegfoaa.Q
open Go.RowKit
open Go.Proofs.YticbjhicjegfoaaW.PrintWords

/-- A block of the call's own, of one node. -/
def NB (n0 : Nat) (w : World) (a : Nat) (ok : Nat → Prop) (b : Nat) (cs : Array Value) : Prop := w.heap[b]? = some (.cells cs 38 (0, 0)) ∧ n0 ≤ b ∧ b ≠ a ∧ ¬ ok b
section
variable {w0 w w' : World} {a b n0 n2 : Nat} {ok0 ok ok' : Nat → Prop} {v val : Value} {S : Ps} {cs cs' : Array Value} {ks : List Nat}
theorem NB.new (h : At w0 a ok0 w ok v S) (cs : Array Value) : NB w0.heap.size (w.alloc (.cells cs 38)) a ok w.heap.size cs :=
  ⟨heap_alloc_new _ _, h.kp.size, fun e => by have := h.p.lt; omega, fun ho => by have := h.p.lo _ ho; omega⟩
theorem NB.mv (h : NB n0 w a ok b cs) (m : Mv w a ok w' ok') : NB n0 w' a ok' b cs :=
  ⟨m.kp.heap h.1 (fun q => q.elim h.2.2.1 h.2.2.2), h.2.1, h.2.2.1, fun ho => (m.sub b ho).elim h.2.2.2 (fun q => by have := (Array.getElem?_eq_some_iff.1 h.1).1; omega)⟩
theorem NB.lt (h : NB n0 w a ok b cs) : b < w.heap.size := (Array.getElem?_eq_some_iff.1 h.1).1
theorem NB.below (h : NB n0 w a ok b cs) (hb : Below w.heap.size w w') : NB n0 w' a ok b cs := ⟨(hb.block b h.lt).trans h.1, h.2⟩
theorem NB.set (h : NB n0 w a ok b cs) (i : Nat) (u : Value) (e : cs.setIfInBounds i u = cs') : NB n0 (w.setCell ⟨b, i, none⟩ u) a ok b cs' := ⟨blk_put h.1 i u e, h.2⟩
theorem NB.c (h : NB n0 w a ok b cs) {i : Nat} {u : Value} (hu : cs[i]? = some u) : w.cell? ⟨b, i, none⟩ = some u := (cell_of_row _ _ _ _ _ _ h.1).trans hu
theorem NB.f (h : NB n0 w a ok b cs) (i : Nat) : w.frozen? ⟨b, i, none⟩ = false := by simp [World.frozen?, h.1]
/-- A store into it: the parser stays. -/
theorem At.setB (h : At w0 a ok0 w ok v S) (hb : NB w0.heap.size w a ok b cs) (i : Nat) (u : Value) : At w0 a ok0 (w.setCell ⟨b, i, none⟩ u) ok v S := by
  have hk : Kp (fun k => k = b) w (w.setCell ⟨b, i, none⟩ u) := Kp.set (p := ⟨b, i, none⟩) u rfl
  exact ⟨h.p.kept hk (fun e => hb.2.2.1 e.symm) (fun k hk e => hb.2.2.2 (e ▸ hk)), h.kp.trans hk (fun k e => .inr (by rw [e]; exact hb.2.1)), h.sub⟩
/-- A row made later stays. -/
theorem LR.setB (h : LR n2 w a ok val ks) (hb : b < n2) (i : Nat) (u : Value) : LR n2 (w.setCell ⟨b, i, none⟩ u) a ok val ks := by
  obtain ⟨okl, h1, h2⟩ := h
  exact ⟨okl, Kd.N_far (p := ⟨b, i, none⟩) h1 (fun k hk (e : k = b) => by have := (h2 k hk).1; omega) u, fun k hk => ⟨(h2 k hk).1, by simpa using (h2 k hk).2.1, (h2 k hk).2.2⟩⟩
end
theorem simpleB_pos {s : ByteArray} {q : Int × Int} (h : simpleB s = some q) : 0 < q.1 := by
  unfold simpleB at h
  repeat' (split at h)
  all_goals first | (cases h; decide) | cases h
end Go.Proofs.Yticbjhicjegfoaa.Q
