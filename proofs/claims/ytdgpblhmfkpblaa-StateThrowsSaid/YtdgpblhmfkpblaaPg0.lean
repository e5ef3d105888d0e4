/- Words for the books of package pages: cells as data, rows that stay, what a family of books is in memory. -/
import Derived.Test.YtdgpblhmfkpblaaProg
import Derived.WalkKit
import Derived.KernelRfl
import Derived.OwnWalk
import Derived.Laws.AppendOwn
import Derived.Laws.OwnMore
import Derived.Below
import Derived.RowKit3
import Derived.Deep.LoopGhost
import Derived.Deep.QuietTactic
import Derived.BigQuiet
import Derived.Deep.RegionWith
import Derived.WalkSpells
import Derived.WalkLawsBesides
namespace Go.Proofs.Ytdgpblhmfkpblaa.Pg
open Go.RowKit

/-- A fact that no tactic looks into. -/
structure Box (p : Prop) : Prop where mk :: (out : p)
theorem hid {p : Prop} (h : p) : Box p := ⟨h⟩

/-- A value of a program, and a cell, as data. -/
structure VD where
  kind : Int
  n : Int
  s : ByteArray
structure CD where
  kind : Int
  a : Int
  b : Int
  keys : List ByteArray
  vals : List VD
def VD.row (v : VD) : List Value := [.int .i64 v.kind, .int .i64 v.n, .string v.s]
def keyRow (s : ByteArray) : List Value := [.string s]

/-- What was there before: blocks below n stay; blocks of X, behind it, may turn whatever their type is. -/
structure Bd where
  n : Nat
  X : Nat → Prop
instance : Coe Bd Nat := ⟨Bd.n⟩
/-- Types whose blocks stay once they are filled: rows of texts, values, tries, frames, jobs. -/
def immT (T : TypeId) : Bool := T == 9 || T == 33 || T == 57 || T == 50 || T == 69 || T == 28
/-- Blocks that stay as they are: those from before, and rows of texts, of values and so on but those of X. -/
def Imm (B : Bd) (w : World) (k : Nat) : Prop := k < w.heap.size ∧ (k < B.n ∨ ∃ cs fr T, w.heap[k]? = some (.cells cs T fr) ∧ immT T = true ∧ ¬ B.X k)

/-- A world behind another one: what stays has stayed. -/
structure Fr (B : Bd) (w w' : World) : Prop where
  os : w'.os = w.os
  tape : w'.tape = w.tape
  output : w'.output = w.output
  size : w.heap.size ≤ w'.heap.size
  imm : ∀ k, Imm B w k → w'.heap[k]? = w.heap[k]?

theorem Fr.refl (B : Bd) (w : World) : Fr B w w := ⟨rfl, rfl, rfl, Nat.le_refl _, fun _ _ => rfl⟩
theorem Imm.move {B : Bd} {w w' : World} {k : Nat} (h : Imm B w k) (hf : Fr B w w') : Imm B w' k := by
  refine ⟨Nat.lt_of_lt_of_le h.1 hf.size, ?_⟩
  rcases h.2 with h' | ⟨cs, fr, T, h1, h2⟩
  · exact .inl h'
  · exact .inr ⟨cs, fr, T, by rw [hf.imm k h]; exact h1, h2⟩
theorem Fr.trans {B : Bd} {a b c : World} (h : Fr B a b) (g : Fr B b c) : Fr B a c :=
  ⟨g.os.trans h.os, g.tape.trans h.tape, g.output.trans h.output, Nat.le_trans h.size g.size, fun k hk => (g.imm k (hk.move h)).trans (h.imm k hk)⟩
theorem Fr.of_below {B : Bd} {w w' : World} (h : Below w.heap.size w w') : Fr B w w' := ⟨h.os, h.tape, h.output, h.size, fun k hk => h.block k hk.1⟩
theorem Fr.below {B : Bd} {w w' : World} (h : Fr B w w') (hB : B ≤ w.heap.size) : Below B w w' := ⟨h.os, h.tape, h.output, h.size, fun k hk => h.imm k ⟨by omega, .inl hk⟩⟩

/-- A block's type. -/
def Typ (w : World) (b : Nat) (T : TypeId) : Prop := ∃ cs fr, w.heap[b]? = some (.cells cs T fr)
theorem Typ.of {w : World} {b : Nat} {T : TypeId} {cs : Array Value} {fr : Nat × Nat} (h : w.heap[b]? = some (.cells cs T fr)) : Typ w b T := ⟨cs, fr, h⟩
theorem Typ.lt {w : World} {b : Nat} {T : TypeId} (h : Typ w b T) : b < w.heap.size := by obtain ⟨_, _, h⟩ := h; exact (Array.getElem?_eq_some_iff.1 h).1
theorem Typ.set {w : World} {b : Nat} {T : TypeId} (h : Typ w b T) (p : Addr) (u : Value) : Typ (w.setCell p u) b T := by
  obtain ⟨cs, fr, h⟩ := h
  by_cases hb : p.block = b
  · subst hb
    simp only [Typ, World.setCell, Array.getElem?_modify, h, Option.map_some]
    split <;> exact ⟨_, _, rfl⟩
  · exact ⟨cs, fr, by rw [Below.heap_setCell _ _ _ _ (Ne.symm hb)]; exact h⟩
theorem Typ.uniq {w : World} {b : Nat} {T T' : TypeId} (h : Typ w b T) (h' : Typ w b T') : T = T' := by
  obtain ⟨cs, fr, h⟩ := h; obtain ⟨cs', fr', h'⟩ := h'
  rw [h] at h'; injection h' with h'; injection h' with _ h'
theorem Typ.move {w w' : World} {b : Nat} {T : TypeId} (h : Typ w b T) (hb : w'.heap[b]? = w.heap[b]?) : Typ w' b T := by
  obtain ⟨cs, fr, h⟩ := h; exact ⟨cs, fr, hb.trans h⟩
/-- A store into a block that need not stay. -/
theorem Fr.set {B : Bd} {w : World} {p : Addr} {T : TypeId} (u : Value) (hT : Typ w p.block T) (_h1 : T ≠ 9) (h2 : immT T = false) (hB : B ≤ p.block) : Fr B w (w.setCell p u) := by
  refine ⟨rfl, rfl, rfl, by simp, fun k hk => Below.heap_setCell _ _ _ _ (fun e => ?_)⟩
  subst e
  rcases hk.2 with h | ⟨cs, fr, T', h, hT', _⟩
  · omega
  · have := hT.uniq (Typ.of h)
    subst this
    rw [h2] at hT'
    cases hT'
/-- A store into a block that may turn. -/
theorem Fr.setX {B : Bd} {w : World} {p : Addr} (u : Value) (hX : B.X p.block) (hB : B ≤ p.block) : Fr B w (w.setCell p u) := by
  refine ⟨rfl, rfl, rfl, by simp, fun k hk => Below.heap_setCell _ _ _ _ (fun e => ?_)⟩
  subst e
  rcases hk.2 with h | ⟨cs, fr, T', h, _, hT'⟩
  · omega
  · exact hT' hX
/-- One more block may turn. -/
def Bd.plus (B : Bd) (g : Nat) : Bd := ⟨B.n, fun k => B.X k ∨ k = g⟩
theorem Imm.plus {B : Bd} {w : World} {k g : Nat} (h : Imm B w k) (hg : w.heap.size ≤ g) : Imm (B.plus g) w k := by
  refine ⟨h.1, ?_⟩
  rcases h.2 with h' | ⟨cs, fr, T, h1, h2, h3⟩
  · exact .inl h'
  · exact .inr ⟨cs, fr, T, h1, h2, fun hk => hk.elim h3 (fun e => by have := h.1; omega)⟩
theorem Imm.minus {B : Bd} {w : World} {k g : Nat} (h : Imm (B.plus g) w k) : Imm B w k := by
  refine ⟨h.1, ?_⟩
  rcases h.2 with h' | ⟨cs, fr, T, h1, h2, h3⟩
  · exact .inl h'
  · exact .inr ⟨cs, fr, T, h1, h2, fun hk => h3 (.inl hk)⟩
theorem Fr.plus {B : Bd} {w w' : World} (h : Fr B w w') (g : Nat) : Fr (B.plus g) w w' := ⟨h.os, h.tape, h.output, h.size, fun k hk => h.imm k hk.minus⟩
theorem Fr.alloc {B : Bd} {w : World} (o : Obj) : Fr B w (w.alloc o) := ⟨rfl, rfl, rfl, by simp, fun k hk => heap_alloc_old w o hk.1⟩
theorem Fr.drew {B : Bd} {w : World} : Fr B w w.drew := ⟨rfl, rfl, rfl, Nat.le_refl _, fun _ _ => rfl⟩

/-- A slice that reads as rows of cells, in blocks that stay. -/
def RowR (B : Bd) (w : World) (sz : Nat) (v : Value) (xs : List (List Value)) : Prop :=
  ∃ A n cap, v = .slice A n cap ∧ xs.length = n ∧ n ≤ cap ∧ cap ≤ maxLen ∧ (A = none → cap = 0) ∧
    (0 < n → ∃ b o, A = some ⟨b, o, none⟩ ∧ Imm B w b ∧ ∀ j c, xs[j]? = some c → c.length = sz ∧ ∀ i u, c[i]? = some u → w.cell? ⟨b, o + (j * sz + i), none⟩ = some u)

theorem RowR.move {B : Bd} {w w' : World} {sz : Nat} {v : Value} {xs : List (List Value)} (h : RowR B w sz v xs) (hf : Fr B w w') : RowR B w' sz v xs := by
  obtain ⟨A, n, cap, h1, h2, h3, h4, h5, h6⟩ := h
  refine ⟨A, n, cap, h1, h2, h3, h4, h5, fun hn => ?_⟩
  obtain ⟨b, o, e, hi, hc⟩ := h6 hn
  refine ⟨b, o, e, hi.move hf, fun j c hj => ⟨(hc j c hj).1, fun i u hu => ?_⟩⟩
  rw [World.cell?_of_block (w := w) (a := ⟨b, o + (j * sz + i), none⟩) (hf.imm b hi)]
  exact (hc j c hj).2 i u hu
theorem RowR.plus {B : Bd} {w : World} {sz g : Nat} {v : Value} {xs : List (List Value)} (h : RowR B w sz v xs) (hg : w.heap.size ≤ g) : RowR (B.plus g) w sz v xs := by
  obtain ⟨A, n, cap, h1, h2, h3, h4, h5, h6⟩ := h
  refine ⟨A, n, cap, h1, h2, h3, h4, h5, fun hn => ?_⟩
  obtain ⟨b, o, e, hi, hc⟩ := h6 hn
  exact ⟨b, o, e, hi.plus hg, hc⟩
theorem RowR.nil (B : Bd) (w : World) (sz : Nat) : RowR B w sz (.slice none 0 0) [] :=
  ⟨none, 0, 0, rfl, rfl, Nat.le_refl _, Nat.zero_le _, fun _ => rfl, fun h => absurd h (by omega)⟩

/-- A cell's five values read as data. -/
def CellR (B : Bd) (w : World) (c : CD) (vs : List Value) : Prop :=
  ∃ ks vl, vs = [.int .i64 c.kind, .int .i64 c.a, .int .i64 c.b, ks, vl] ∧ RowR B w 1 ks (c.keys.map keyRow) ∧ RowR B w 3 vl (c.vals.map VD.row)
theorem CellR.move {B : Bd} {w w' : World} {c : CD} {vs : List Value} (h : CellR B w c vs) (hf : Fr B w w') : CellR B w' c vs := by
  obtain ⟨ks, vl, e, h1, h2⟩ := h
  exact ⟨ks, vl, e, h1.move hf, h2.move hf⟩
theorem CellR.plus {B : Bd} {w : World} {c : CD} {vs : List Value} (h : CellR B w c vs) {g : Nat} (hg : w.heap.size ≤ g) : CellR (B.plus g) w c vs := by
  obtain ⟨ks, vl, e, h1, h2⟩ := h
  exact ⟨ks, vl, e, h1.plus hg, h2.plus hg⟩
theorem CellR.length {B : Bd} {w : World} {c : CD} {vs : List Value} (h : CellR B w c vs) : vs.length = 5 := by
  obtain ⟨ks, vl, e, _⟩ := h; subst e; rfl

/-- Rows of cells: the elements' five values behind one another. -/
def CellsR (B : Bd) (w : World) : List CD → List Value → Prop
  | [], vs => vs = []
  | c :: l, vs => ∃ v r, vs = v ++ r ∧ CellR B w c v ∧ CellsR B w l r
theorem CellsR.move {B : Bd} {w w' : World} (hf : Fr B w w') : ∀ {l : List CD} {vs : List Value}, CellsR B w l vs → CellsR B w' l vs
  | [], _, h => h
  | _ :: _, _, ⟨v, r, e, h1, h2⟩ => ⟨v, r, e, h1.move hf, CellsR.move hf h2⟩
theorem CellsR.plus {B : Bd} {w : World} {g : Nat} (hg : w.heap.size ≤ g) : ∀ {l : List CD} {vs : List Value}, CellsR B w l vs → CellsR (B.plus g) w l vs
  | [], _, h => h
  | _ :: _, _, ⟨v, r, e, h1, h2⟩ => ⟨v, r, e, h1.plus hg, CellsR.plus hg h2⟩
theorem CellsR.length {B : Bd} {w : World} : ∀ {l : List CD} {vs : List Value}, CellsR B w l vs → vs.length = l.length * 5
  | [], _, h => by cases h; rfl
  | c :: l, _, ⟨v, r, e, h1, h2⟩ => by subst e; rw [List.length_append, h1.length, CellsR.length h2, List.length_cons]; omega
theorem CellsR.append {B : Bd} {w : World} : ∀ {l : List CD} {vs : List Value} {l' : List CD} {vs' : List Value}, CellsR B w l vs → CellsR B w l' vs' → CellsR B w (l ++ l') (vs ++ vs')
  | [], _, _, _, h, h' => by cases h; exact h'
  | c :: l, _, _, _, ⟨v, r, e, h1, h2⟩, h' => ⟨v, r ++ _, by rw [e, List.append_assoc], h1, CellsR.append h2 h'⟩
theorem CellsR.one {B : Bd} {w : World} {c : CD} {vs : List Value} (h : CellR B w c vs) : CellsR B w [c] vs := ⟨vs, [], by simp, h, rfl⟩
/-- One element's values. -/
theorem CellsR.get {B : Bd} {w : World} : ∀ {l : List CD} {vs : List Value}, CellsR B w l vs → ∀ i c, l[i]? = some c → ∃ v, CellR B w c v ∧ ∀ j u, v[j]? = some u → vs[i * 5 + j]? = some u
  | [], _, _, i, c, hc => by simp at hc
  | a :: l, _, ⟨v, r, e, h1, h2⟩, 0, c, hc => by
    simp at hc; subst hc; subst e
    refine ⟨v, h1, fun j u hu => ?_⟩
    have hj := (List.getElem?_eq_some_iff.1 hu).1
    rw [List.getElem?_append_left (by omega)]; simpa using hu
  | a :: l, _, ⟨v, r, e, h1, h2⟩, i + 1, c, hc => by
    obtain ⟨u, hu, hg⟩ := CellsR.get h2 i c (by simpa using hc)
    refine ⟨u, hu, fun j x hx => ?_⟩
    subst e
    rw [List.getElem?_append_right (by rw [h1.length]; omega), h1.length, show (i + 1) * 5 + j - 5 = i * 5 + j by omega]
    exact hg j x hx
/-- One element is another one from now on. -/
theorem CellsR.set {B : Bd} {w : World} : ∀ {l : List CD} {vs : List Value}, CellsR B w l vs → ∀ i c v, i < l.length → CellR B w c v → CellsR B w (l.set i c) (vs.take (i * 5) ++ v ++ vs.drop (i * 5 + 5))
  | [], _, _, i, c, v, hi, _ => by simp at hi
  | a :: l, _, ⟨u, r, e, h1, h2⟩, 0, c, v, _, hv => by
    subst e
    refine ⟨v, r, ?_, hv, h2⟩
    have := h1.length
    simp [this]
  | a :: l, _, ⟨u, r, e, h1, h2⟩, i + 1, c, v, hi, hv => by
    subst e
    have := h1.length
    refine ⟨u, r.take (i * 5) ++ v ++ r.drop (i * 5 + 5), ?_, h1, CellsR.set h2 i c v (by simpa using hi) hv⟩
    rw [List.take_append, List.drop_append, this, List.take_of_length_le (by omega), List.drop_of_length_le (by omega)]
    rw [show (i + 1) * 5 - 5 = i * 5 by omega, show (i + 1) * 5 + 5 - 5 = i * 5 + 5 by omega]
    simp

end Go.Proofs.Ytdgpblhmfkpblaa.Pg
