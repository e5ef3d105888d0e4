/- A parser in memory. -/
import Derived.Test.YticbjhicjegfoaaQa
import Derived.Test.YticbjhicjegfoaaWNEv
import Derived.Test.YticbjhicjegfoaaProg
namespace Go.Proofs.Yticbjhicjegfoaa.Q
open Go.RowKit
open Go.Proofs.YticbjhicjegfoaaW.PrintWords

/-- A fact that no tactic looks into. -/
structure Box (p : Prop) : Prop where mk :: (out : p)
theorem hid {p : Prop} (h : p) : Box p := ⟨h⟩
def ptr (b : Nat) : Value := .pointer (some ⟨b, 0, none⟩)

/-- What a call keeps: all but the blocks of K, and what lies outside the heap. -/
structure Kp (K : Nat → Prop) (w w' : World) : Prop where
  os : w'.os = w.os
  tape : w'.tape = w.tape
  output : w'.output = w.output
  size : w.heap.size ≤ w'.heap.size
  block : ∀ k, k < w.heap.size → ¬ K k → w'.heap[k]? = w.heap[k]?
section
variable {K K' : Nat → Prop} {w w' w'' : World}
theorem Kp.kept (h : Kp K w w') : Kept w w' K := ⟨h.size, h.block⟩
theorem Kp.refl (K : Nat → Prop) (w : World) : Kp K w w := ⟨rfl, rfl, rfl, Nat.le_refl _, fun _ _ _ => rfl⟩
theorem Kp.of_below (h : Below w.heap.size w w') : Kp K w w' := ⟨h.os, h.tape, h.output, h.size, fun k hk _ => h.block k hk⟩
theorem Kp.trans (h : Kp K w w') (g : Kp K' w' w'') (hs : ∀ k, K' k → K k ∨ w.heap.size ≤ k) : Kp K w w'' :=
  ⟨g.os.trans h.os, g.tape.trans h.tape, g.output.trans h.output, Nat.le_trans h.size g.size, fun k hk hn => (g.block k (Nat.lt_of_lt_of_le hk h.size) (fun h' => (hs k h').elim hn (by omega))).trans (h.block k hk hn)⟩
theorem Kp.below (h : Kp K w w') (g : Below w'.heap.size w' w'') : Kp K w w'' := h.trans (Kp.of_below (K := fun _ => False) g) (fun _ h => h.elim)
theorem Kp.set {p : Addr} (u : Value) (h : K p.block) : Kp K w (w.setCell p u) := ⟨rfl, rfl, rfl, by simp, fun k _ hn => Below.heap_setCell _ _ _ _ (fun e => hn (by rw [e]; exact h))⟩
theorem Kp.grown {row : Option Nat} (hg : w.grownBy w' row) (h : ∀ k, row = some k → K k) : Kp K w w' := ⟨hg.os, hg.tape, hg.output, hg.size, fun k hk hn => hg.block k hk (fun e => hn (h k e.symm))⟩
theorem Kp.mono (h : Kp K w w') (hs : ∀ k, K k → K' k) : Kp K' w w' := ⟨h.os, h.tape, h.output, h.size, fun k hk hn => h.block k hk (fun h' => hn (hs k h'))⟩
/-- What is new may turn: below, nothing has. -/
theorem Kp.to_below (h : Kp K w w') {n : Nat} (hn : n ≤ w.heap.size) (hs : ∀ k, K k → n ≤ k) : Below n w w' := ⟨h.os, h.tape, h.output, h.size, fun k hk => h.block k (by omega) (fun h' => by have := hs k h'; omega)⟩
theorem Kp.heap (h : Kp K w w') {g : Nat} {o : Obj} (hg : w.heap[g]? = some o) (hn : ¬ K g) : w'.heap[g]? = some o := (h.block g (Array.getElem?_eq_some_iff.1 hg).1 hn).trans hg
end

def ints (l : List Nat) : List Int := l.map Int.ofNat
theorem ints_length (l : List Nat) : (ints l).length = l.length := by simp [ints]
/-- A node's six cells. -/
def kNd : Kd Nd := Kd.iso (Kd.pair (Kd.int .i64) (Kd.pair (Kd.int .i64) (Kd.pair Kd.string (Kd.pair (Kd.slice 9 Kd.string) (Kd.pair (Kd.slice 3 (Kd.int .i64)) (Kd.int .i64)))))) (fun x : Nd => (x.kind, x.num, x.text, x.names, ints x.kids, (x.at_ : Int)))
theorem kNd_open {w : World} {x : Nd} {cs : List Value} (h : kNd.K w x cs) : ∃ A3 c3 A4 c4, cs = [.int .i64 x.kind, .int .i64 x.num, .string x.text, .slice A3 x.names.length c3, .slice A4 x.kids.length c4, .int .i64 x.at_] ∧ x.names.length ≤ c3 ∧ Kd.string.C w A3 x.names.length x.names ∧ x.kids.length ≤ c4 ∧ (Kd.int .i64).C w A4 x.kids.length (ints x.kids) := by
  obtain ⟨_, _, rfl, rfl, _, _, rfl, rfl, _, _, rfl, rfl, _, _, rfl, ⟨A3, c3, rfl, l3, h3⟩, _, _, rfl, ⟨A4, c4, rfl, l4, h4⟩, rfl⟩ := h
  refine ⟨A3, c3, A4, c4, ?_, l3, h3, ?_, ?_⟩
  · simp [ints_length]
  · simpa [ints_length] using l4
  · simpa [ints_length] using h4
theorem kNd_mkF (W : World) (ok : Nat → Prop) (x : Nd) {A3 : Option Addr} {c3 : Nat} (l3 : x.names.length ≤ c3) (g3 : Kd.F Kd.string W ok A3 x.names.length x.names) {A4 : Option Addr} {c4 : Nat} (l4 : x.kids.length ≤ c4) (g4 : Kd.F (Kd.int .i64) W ok A4 x.kids.length (ints x.kids)) :
    Kd.FK kNd W ok x [.int .i64 x.kind, .int .i64 x.num, .string x.text, .slice A3 x.names.length c3, .slice A4 x.kids.length c4, .int .i64 x.at_] := fun W2 hW =>
  ⟨[.int .i64 x.kind], [.int .i64 x.num, .string x.text, .slice A3 x.names.length c3, .slice A4 x.kids.length c4, .int .i64 x.at_], rfl, rfl, [.int .i64 x.num], [.string x.text, .slice A3 x.names.length c3, .slice A4 x.kids.length c4, .int .i64 x.at_], rfl, rfl, [.string x.text], [.slice A3 x.names.length c3, .slice A4 x.kids.length c4, .int .i64 x.at_], rfl, rfl,
    [.slice A3 x.names.length c3], [.slice A4 x.kids.length c4, .int .i64 x.at_], rfl, ⟨A3, c3, rfl, l3, g3 W2 hW⟩, [.slice A4 x.kids.length c4], [.int .i64 x.at_], rfl, ⟨A4, c4, by simp [ints_length], by simpa [ints_length] using l4, by have := g4 W2 hW; simpa [ints_length] using this⟩, rfl⟩

/-- A parser's ten cells. -/
def psRow (S : Ps) (v : Value) : Array Value := #[.string S.src, .int .i64 S.t.kind, .string S.t.text, .int .i64 S.t.num, .int .i64 S.t.at_, .bool S.t.line, .int .i64 S.end_, v, .int .i64 S.deep, .bool S.bad]
/-- A parser in memory: its block a, its row of nodes v; all that lies in blocks of ok. -/
structure PI (w : World) (a : Nat) (ok : Nat → Prop) (v : Value) (S : Ps) : Prop where
  cell : w.heap[a]? = some (.cells (psRow S v) 64 (0, 0))
  row : Kd.N kNd 38 w 0 ok v S.l
  off : ¬ ok a
  fit : S.src.size ≤ 4096 ∧ S.end_ ≤ S.src.size
  lo : ∀ k, ok k → k < w.heap.size
/-- What a call of a parser's comes to. -/
def Nx (w : World) (a : Nat) (ok : Nat → Prop) (w' : World) (S' : Ps) : Prop :=
  ∃ ok' v', PI w' a ok' v' S' ∧ Kp (fun k => k = a ∨ ok k) w w' ∧ ∀ k, ok' k → ok k ∨ w.heap.size ≤ k
section
variable {w w' w'' : World} {a : Nat} {ok ok' : Nat → Prop} {v : Value} {S S' : Ps} {K : Nat → Prop}
theorem PI.lt (h : PI w a ok v S) : a < w.heap.size := (Array.getElem?_eq_some_iff.1 h.cell).1
theorem PI.c (h : PI w a ok v S) {i : Nat} {u : Value} (hu : (psRow S v)[i]? = some u) : w.cell? ⟨a, i, none⟩ = some u := (cell_of_row _ _ _ _ _ _ h.cell).trans hu
theorem PI.c0 (h : PI w a ok v S) : w.cell? ⟨a, 0, none⟩ = some (.string S.src) := h.c rfl
theorem PI.c1 (h : PI w a ok v S) : w.cell? ⟨a, 1, none⟩ = some (.int .i64 S.t.kind) := h.c rfl
theorem PI.c2 (h : PI w a ok v S) : w.cell? ⟨a, 2, none⟩ = some (.string S.t.text) := h.c rfl
theorem PI.c3 (h : PI w a ok v S) : w.cell? ⟨a, 3, none⟩ = some (.int .i64 S.t.num) := h.c rfl
theorem PI.c4 (h : PI w a ok v S) : w.cell? ⟨a, 4, none⟩ = some (.int .i64 S.t.at_) := h.c rfl
theorem PI.c5 (h : PI w a ok v S) : w.cell? ⟨a, 5, none⟩ = some (.bool S.t.line) := h.c rfl
theorem PI.c6 (h : PI w a ok v S) : w.cell? ⟨a, 6, none⟩ = some (.int .i64 S.end_) := h.c rfl
theorem PI.c7 (h : PI w a ok v S) : w.cell? ⟨a, 7, none⟩ = some (v) := h.c rfl
theorem PI.c8 (h : PI w a ok v S) : w.cell? ⟨a, 8, none⟩ = some (.int .i64 S.deep) := h.c rfl
theorem PI.c9 (h : PI w a ok v S) : w.cell? ⟨a, 9, none⟩ = some (.bool S.bad) := h.c rfl
theorem PI.f (h : PI w a ok v S) (i : Nat) : w.frozen? ⟨a, i, none⟩ = false := by simp [World.frozen?, h.cell]
theorem PI.bound (h : PI w a ok v S) : PI w a (fun k => ok k ∧ k < w.heap.size) v S := ⟨h.cell, Kd.N_bound h.row, fun hk => h.off hk.1, h.fit, fun _ hk => hk.2⟩
theorem PI.kept (h : PI w a ok v S) (hk : Kp K w w') (ha : ¬ K a) (hK : ∀ k, ok k → ¬ K k) : PI w' a ok v S := ⟨hk.heap h.cell ha, Kd.N_kept h.row hk.kept hK, h.off, h.fit, fun k hk' => Nat.lt_of_lt_of_le (h.lo k hk') hk.size⟩
theorem PI.below (h : PI w a ok v S) (hb : Below w.heap.size w w') : PI w' a ok v S := h.kept (Kp.of_below (K := fun _ => False) hb) (fun h => h) (fun _ _ h => h)
theorem PI.set (h : PI w a ok v S) (i : Nat) (u : Value) (hr : (psRow S v).setIfInBounds i u = psRow S' v) (hl : S'.l = S.l) (hf : S'.src = S.src ∧ S'.end_ = S.end_ := by exact ⟨rfl, rfl⟩) : PI (w.setCell ⟨a, i, none⟩ u) a ok v S' :=
  ⟨blk_put h.cell i u hr, by rw [hl]; exact Kd.N_far (p := ⟨a, i, none⟩) h.row (fun k hk => fun (e : k = a) => h.off (e ▸ hk)) u, h.off, by rw [hf.1, hf.2]; exact h.fit, fun k hk => by simpa using h.lo k hk⟩
theorem PI.setE (h : PI w a ok v S) (i : Nat) (u : Value) (hr : (psRow S v).setIfInBounds i u = psRow S' v) (hl : S'.l = S.l) (hf : S'.src.size ≤ 4096 ∧ S'.end_ ≤ S'.src.size) : PI (w.setCell ⟨a, i, none⟩ u) a ok v S' :=
  ⟨blk_put h.cell i u hr, by rw [hl]; exact Kd.N_far (p := ⟨a, i, none⟩) h.row (fun k hk => fun (e : k = a) => h.off (e ▸ hk)) u, h.off, hf, fun k hk => by simpa using h.lo k hk⟩
theorem PI.same (h : PI w a ok v S) : Nx w a ok w S := ⟨ok, v, h, Kp.refl _ _, fun _ h => .inl h⟩
theorem PI.nx (h : PI w' a ok v S) (hk : Kp (fun k => k = a ∨ ok k) w w') : Nx w a ok w' S := ⟨ok, v, h, hk, fun _ h => .inl h⟩
/-- One call behind another. -/
theorem Nx.trans (h : Nx w a ok w' S) (g : ∀ ok' v', PI w' a ok' v' S → Nx w' a ok' w'' S') : Nx w a ok w'' S' := by
  obtain ⟨ok1, v1, h1, k1, s1⟩ := h
  obtain ⟨ok2, v2, h2, k2, s2⟩ := g ok1 v1 h1
  refine ⟨ok2, v2, h2, k1.trans k2 (fun k hk => hk.elim (fun e => .inl (.inl e)) (fun h => (s1 k h).imp .inr id)), fun k hk => (s2 k hk).elim (s1 k) (fun h => .inr (Nat.le_trans k1.size h))⟩
theorem Nx.pre (hb : Below w.heap.size w w') (h : Nx w' a ok w'' S') : Nx w a ok w'' S' := by
  obtain ⟨ok1, v1, h1, k1, s1⟩ := h
  exact ⟨ok1, v1, h1, (Kp.of_below hb).trans k1 (fun _ h => .inl h), fun k hk => (s1 k hk).imp id (fun h => Nat.le_trans hb.size h)⟩
theorem Nx.post (h : Nx w a ok w' S') (hb : Below w'.heap.size w' w'') : Nx w a ok w'' S' := by
  obtain ⟨ok1, v1, h1, k1, s1⟩ := h
  exact ⟨ok1, v1, h1.below hb, k1.below hb, s1⟩
end

theorem beqB_iff (a b : ByteArray) : beqB a b = true ↔ a = b := by
  have key : ∀ l m : List UInt8, eqL l m = true ↔ l = m := by
    intro l
    induction l with
    | nil => intro m; cases m <;> simp [eqL]
    | cons x l ih =>
      intro m
      cases m with
      | nil => simp [eqL]
      | cons y m => rw [eqL, Bool.and_eq_true, ih, Nat.beq_eq, UInt8.toNat_inj, List.cons.injEq]
  unfold beqB
  rw [key]
  constructor
  · intro h
    cases a; cases b
    simpa [Array.toList_inj] using h
  · intro h; rw [h]
end Go.Proofs.Yticbjhicjegfoaa.Q
