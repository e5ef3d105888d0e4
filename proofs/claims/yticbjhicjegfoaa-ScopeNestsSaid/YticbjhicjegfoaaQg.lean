/- A parser's calls, one behind the other; rows of nodes' numbers beside it. -/
import Derived.Test.YticbjhicjegfoaaQf
namespace Go.Proofs.Yticbjhicjegfoaa.Q
open Go.RowKit
open Go.Proofs.YticbjhicjegfoaaW.PrintWords

/-- Since w0 only the parser's own has turned. -/
structure At (w0 : World) (a : Nat) (ok0 : Nat → Prop) (w : World) (ok : Nat → Prop) (v : Value) (S : Ps) : Prop where
  p : PI w a ok v S
  kp : Kp (fun k => k = a ∨ ok0 k) w0 w
  sub : ∀ k, ok k → ok0 k ∨ w0.heap.size ≤ k
/-- What a call has turned. -/
structure Mv (w : World) (a : Nat) (ok : Nat → Prop) (w' : World) (ok' : Nat → Prop) : Prop where
  kp : Kp (fun k => k = a ∨ ok k) w w'
  sub : ∀ k, ok' k → ok k ∨ w.heap.size ≤ k
/-- A row of numbers of the call's own, made since there were n0 blocks. -/
def LR (n0 : Nat) (w : World) (a : Nat) (ok : Nat → Prop) (val : Value) (ks : List Nat) : Prop :=
  ∃ okl, Kd.N (Kd.int .i64) 3 w 0 okl val (ints ks) ∧ ∀ k, okl k → n0 ≤ k ∧ k < w.heap.size ∧ ¬ ok k ∧ k ≠ a
section
variable {w0 w w' : World} {a : Nat} {ok0 ok ok' : Nat → Prop} {v v' val : Value} {S S' : Ps} {ks : List Nat} {n0 n1 k : Nat}
theorem At.start (h : PI w a ok v S) : At w a ok w ok v S := ⟨h, Kp.refl _ _, fun _ h => .inl h⟩
theorem At.nx (h : At w0 a ok0 w ok v S) : Nx w0 a ok0 w S := ⟨ok, v, h.p, h.kp, h.sub⟩
theorem At.call (h : At w0 a ok0 w ok v S) (hN : Nx w a ok w' S') : ∃ ok' v', At w0 a ok0 w' ok' v' S' ∧ Mv w a ok w' ok' := by
  obtain ⟨ok', v', h1, k1, s1⟩ := hN
  exact ⟨ok', v', ⟨h1, h.kp.trans k1 (fun k hk => hk.elim (fun e => .inl (.inl e)) (fun hk => (h.sub k hk).imp .inr id)), fun k hk => (s1 k hk).elim (h.sub k) (fun h' => .inr (Nat.le_trans h.kp.size h'))⟩, ⟨k1, s1⟩⟩
/-- A call that tells all of what it left. -/
theorem At.trans {w1 w2 : World} {ok1 ok2 : Nat → Prop} {v1 v2 : Value} {S1 S2 : Ps} (h : At w0 a ok0 w1 ok1 v1 S1) (g : At w1 a ok1 w2 ok2 v2 S2) : At w0 a ok0 w2 ok2 v2 S2 ∧ Mv w1 a ok1 w2 ok2 :=
  ⟨⟨g.p, h.kp.trans g.kp (fun k hk => hk.elim (fun e => .inl (.inl e)) (fun hk => (h.sub k hk).imp .inr id)), fun k hk => (g.sub k hk).elim (h.sub k) (fun h' => .inr (Nat.le_trans h.kp.size h'))⟩, ⟨g.kp, g.sub⟩⟩
theorem At.below (h : At w0 a ok0 w ok v S) (hb : Below w.heap.size w w') : At w0 a ok0 w' ok v S := ⟨h.p.below hb, h.kp.below hb, h.sub⟩
theorem LR.nil (n0 : Nat) (w : World) (a : Nat) (ok : Nat → Prop) : LR n0 w a ok (.slice none 0 0) [] := ⟨fun _ => False, Kd.R_N (Kd.R_nil _ _ _ _ _), fun _ h => h.elim⟩
theorem LR.mv (h : LR n0 w a ok val ks) (m : Mv w a ok w' ok') : LR n0 w' a ok' val ks := by
  obtain ⟨okl, h1, h2⟩ := h
  refine ⟨okl, Kd.N_kept h1 m.kp.kept (fun k hk h' => h'.elim (h2 k hk).2.2.2 (h2 k hk).2.2.1), fun k hk => ?_⟩
  obtain ⟨q1, q2, q3, q4⟩ := h2 k hk
  exact ⟨q1, Nat.lt_of_lt_of_le q2 m.kp.size, fun h' => (m.sub k h').elim q3 (fun h'' => by omega), q4⟩
theorem LR.below (h : LR n0 w a ok val ks) (hb : Below w.heap.size w w') : LR n0 w' a ok val ks := by
  obtain ⟨okl, h1, h2⟩ := h
  exact ⟨okl, Kd.N_below h1 hb, fun k hk => ⟨(h2 k hk).1, Nat.lt_of_lt_of_le (h2 k hk).2.1 hb.size, (h2 k hk).2.2⟩⟩
theorem LR.slice (h : LR n0 w a ok val ks) : ∃ A c, val = .slice A ks.length c := by
  obtain ⟨okl, h1, _⟩ := h
  obtain ⟨A, c, e⟩ := Kd.N_slice h1
  exact ⟨A, c, by rw [e, ints_length]⟩
theorem LR.le (h : LR n0 w a ok val ks) (hn : n1 ≤ n0) : LR n1 w a ok val ks := by
  obtain ⟨okl, h1, h2⟩ := h
  exact ⟨okl, h1, fun k hk => ⟨Nat.le_trans hn (h2 k hk).1, (h2 k hk).2⟩⟩
theorem infoInt : (Try.prog.info? 3).map (fun i => (i.zero, i.size, i.bytes)) = some (some (.int .i64 0), 1, 8) := by kernel_rfl
theorem infoStr : (Try.prog.info? 9).map (fun i => (i.zero, i.size, i.bytes)) = some (some (.string ⟨#[]⟩), 1, 16) := by kernel_rfl
/-- One more number. -/
theorem LR.grow (hp : PI w a ok v S) (h0 : n0 ≤ w.heap.size) {w1 : World} {val1 : Value} {okl : Nat → Prop} (h2 : ∀ k, okl k → n0 ≤ k ∧ k < w.heap.size ∧ ¬ ok k ∧ k ≠ a)
    (hN : Kd.N (Kd.int .i64) 3 w1 0 (fun k => okl k ∨ w.heap.size ≤ k) val1 (ints (ks ++ [k]))) : LR n0 w1 a ok val1 (ks ++ [k]) := by
  refine ⟨fun k => (okl k ∨ w.heap.size ≤ k) ∧ k < w1.heap.size, Kd.N_bound hN, fun k hk => ?_⟩
  rcases hk.1 with h' | h'
  · exact ⟨(h2 k h').1, hk.2, (h2 k h').2.2⟩
  · exact ⟨Nat.le_trans h0 h', hk.2, fun ho => by have := hp.lo k ho; omega, fun e => by have := hp.lt; omega⟩
/-- A row beside the parser grows: the parser stays. -/
theorem At.grown (h : At w0 a ok0 w ok v S) (hl : LR n0 w a ok val ks) (h0 : w0.heap.size ≤ n0) {w1 : World} (hg : w.grownBy w1 val.ownBlock) : At w0 a ok0 w1 ok v S := by
  obtain ⟨okl, h1, h2⟩ := hl
  have hk : Kp (fun k => val.ownBlock = some k) w w1 := Kp.grown hg (fun k e => e)
  refine ⟨h.p.kept hk (fun e => (h2 a (h1.1 a e)).2.2.2 rfl) (fun k hk e => (h2 k (h1.1 k e)).2.2.1 hk), h.kp.trans hk (fun k e => .inr (Nat.le_trans h0 (h2 k (h1.1 k e)).1)), h.sub⟩
/-- A row of one number, made. -/
theorem LR.one (h : At w0 a ok0 w ok v S) (k : Nat) : LR w0.heap.size (w.alloc (.cells #[.int .i64 k] 3)) a ok (.slice (some ⟨w.heap.size, 0, none⟩) 1 1) [k] := by
  have ho := World.ownsRow_lit (base := w.heap.size) (e := 3) (size := 1) w #[.int .i64 k] 1 (Nat.le_refl _) (by decide) rfl
  have hR : Kd.R (Kd.int .i64) 3 (w.alloc (.cells #[.int .i64 k] 3)) w.heap.size (fun j => j = w.heap.size) (.slice (some ⟨w.heap.size, 0, none⟩) 1 1) (ints [k]) := by
    refine ⟨fun j hj => by simpa [Value.ownBlock] using hj.symm, [.int .i64 k], ho, rfl, fun j p hp => ?_⟩
    rcases j with _ | j
    · simp only [ints, List.map_cons, List.map_nil, List.getElem?_cons_zero, Option.some.injEq] at hp
      subst hp
      rfl
    · simp [ints] at hp
  refine ⟨_, Kd.N_lower (Kd.R_N hR) (Nat.zero_le _), fun j hj => ?_⟩
  subst hj
  exact ⟨h.kp.size, by simp, fun ho => by have := h.p.lo _ ho; omega, fun e => by have := h.p.lt; omega⟩
/-- A node whose kids are a row beside the parser. -/
theorem LR.node (h : LR n0 w a ok val ks) (hn0 : w0.heap.size ≤ n0) (kind num : Int) (text : ByteArray) (at_ : Nat) :
    ∃ okp, Kd.FK kNd w okp ⟨kind, num, text, [], ks, at_⟩ [.int .i64 kind, .int .i64 num, .string text, .slice none 0 0, val, .int .i64 at_] ∧ (∀ k, okp k → ¬ ok k ∧ k ≠ a) ∧ ∀ k, okp k → w0.heap.size ≤ k := by
  obtain ⟨okl, h1, h2⟩ := h
  obtain ⟨A, c, e⟩ := Kd.N_slice h1
  subst e
  rw [ints_length] at h1 ⊢
  refine ⟨okl, kNd_mkF w okl ⟨kind, num, text, [], ks, at_⟩ (A3 := none) (c3 := 0) (Nat.le_refl _) (Kd.F_nil _ _ _) (A4 := A) (c4 := c) (by have := (Kd.N_reads' h1).2.1; rwa [show ks.length = ks.length from rfl] at this) (Kd.N_F h1), fun k hk => (h2 k hk).2.2, fun k hk => Nat.le_trans hn0 (h2 k hk).1⟩
/-- Behind put. -/
theorem At.put (h : At w0 a ok0 w ok v S) {okp : Nat → Prop} (hp : NxP w a ok okp w' S') (h0 : ∀ k, okp k → w0.heap.size ≤ k) : ∃ ok' v', At w0 a ok0 w' ok' v' S' := by
  obtain ⟨ok', v', h1, k1, s1⟩ := hp
  refine ⟨ok', v', h1, h.kp.trans k1 (fun k hk => hk.elim (fun e => .inl (.inl e)) (fun hk => (h.sub k hk).imp .inr id)), fun k hk => ?_⟩
  rcases s1 k hk with h' | h' | h'
  · exact h.sub k h'
  · exact .inr (h0 k h')
  · exact .inr (Nat.le_trans h.kp.size h')
end

theorem Mv.cell {w w' : World} {a b i : Nat} {ok ok' : Nat → Prop} {u : Value} (m : Mv w a ok w' ok') (hc : w.cell? ⟨b, i, none⟩ = some u) (h1 : b ≠ a) (h2 : ¬ ok b) : w'.cell? ⟨b, i, none⟩ = some u := cell_kept hc m.kp.kept (fun h => h.elim h1 h2)
/-- What a call comes to: a node, or a row of nodes. -/
def Ret (w : World) (a : Nat) (ok : Nat → Prop) (k : Nat) (S' : Ps) (e : Ending) (w' : World) : Prop := e = .returned (.int .i64 k) ∧ Nx w a ok w' S'
def RetL (w : World) (a : Nat) (ok : Nat → Prop) (ks : List Nat) (S' : Ps) (e : Ending) (w' : World) : Prop :=
  ∃ val ok' v', e = .returned val ∧ At w a ok w' ok' v' S' ∧ LR w.heap.size w' a ok' val ks
/-- The parser's functions, so many calls deep, do what run says. -/
structure Good (n : Nat) : Prop where
  list : ∀ {last : Bool} {S S' : Ps} {k : Nat} {ks : List Nat}, run n (.list last []) S = some (k, ks, S') → ∀ {w : World} {a : Nat} {ok : Nat → Prop} {v : Value}, PI w a ok v S → Calls Try.prog 29 #[ptr a, .bool last] w (RetL w a ok ks S')
  commas : ∀ {last : ByteArray} {S S' : Ps} {k : Nat} {ks : List Nat}, run n (.commas last) S = some (k, ks, S') → ∀ {w : World} {a : Nat} {ok : Nat → Prop} {v : Value}, PI w a ok v S → Calls Try.prog 105 #[ptr a, .string last] w (RetL w a ok ks S')
  block : ∀ {S S' : Ps} {k : Nat} {ks : List Nat}, run n .block S = some (k, ks, S') → ∀ {w : World} {a : Nat} {ok : Nat → Prop} {v : Value}, PI w a ok v S → Calls Try.prog 81 #[ptr a] w (Ret w a ok k S')
  stmt : ∀ {S S' : Ps} {k : Nat} {ks : List Nat}, run n .stmt S = some (k, ks, S') → ∀ {w : World} {a : Nat} {ok : Nat → Prop} {v : Value}, PI w a ok v S → Calls Try.prog 50 #[ptr a] w (Ret w a ok k S')
  inner : ∀ {S S' : Ps} {k : Nat} {ks : List Nat}, run n .inner S = some (k, ks, S') → ∀ {w : World} {a : Nat} {ok : Nat → Prop} {v : Value}, PI w a ok v S → Calls Try.prog 86 #[ptr a] w (Ret w a ok k S')
  one : ∀ {S S' : Ps} {k : Nat} {ks : List Nat}, run n .one S = some (k, ks, S') → ∀ {w : World} {a : Nat} {ok : Nat → Prop} {v : Value}, PI w a ok v S → Calls Try.prog 62 #[ptr a] w (Ret w a ok k S')
  fn : ∀ {named : Bool} {S S' : Ps} {k : Nat} {ks : List Nat}, run n (.fn named) S = some (k, ks, S') → ∀ {w : World} {a : Nat} {ok : Nat → Prop} {v : Value}, PI w a ok v S → Calls Try.prog 82 #[ptr a, .bool named] w (Ret w a ok k S')
  e : ∀ {S S' : Ps} {k : Nat} {ks : List Nat}, run n .e S = some (k, ks, S') → ∀ {w : World} {a : Nat} {ok : Nat → Prop} {v : Value}, PI w a ok v S → Calls Try.prog 85 #[ptr a] w (Ret w a ok k S')
  assign : ∀ {S S' : Ps} {k : Nat} {ks : List Nat}, run n .assign S = some (k, ks, S') → ∀ {w : World} {a : Nat} {ok : Nat → Prop} {v : Value}, PI w a ok v S → Calls Try.prog 98 #[ptr a] w (Ret w a ok k S')
  cond : ∀ {S S' : Ps} {k : Nat} {ks : List Nat}, run n .cond S = some (k, ks, S') → ∀ {w : World} {a : Nat} {ok : Nat → Prop} {v : Value}, PI w a ok v S → Calls Try.prog 99 #[ptr a] w (Ret w a ok k S')
  binary : ∀ {level : Nat} {S S' : Ps} {k : Nat} {ks : List Nat}, run n (.binary level) S = some (k, ks, S') → level ≤ 6 → ∀ {w : World} {a : Nat} {ok : Nat → Prop} {v : Value}, PI w a ok v S → Calls Try.prog 100 #[ptr a, .int .i64 level] w (Ret w a ok k S')
  unary : ∀ {S S' : Ps} {k : Nat} {ks : List Nat}, run n .unary S = some (k, ks, S') → ∀ {w : World} {a : Nat} {ok : Nat → Prop} {v : Value}, PI w a ok v S → Calls Try.prog 102 #[ptr a] w (Ret w a ok k S')
  post : ∀ {S S' : Ps} {k : Nat} {ks : List Nat}, run n .post S = some (k, ks, S') → ∀ {w : World} {a : Nat} {ok : Nat → Prop} {v : Value}, PI w a ok v S → Calls Try.prog 103 #[ptr a] w (Ret w a ok k S')
  first : ∀ {S S' : Ps} {k : Nat} {ks : List Nat}, run n .first S = some (k, ks, S') → ∀ {w : World} {a : Nat} {ok : Nat → Prop} {v : Value}, PI w a ok v S → Calls Try.prog 104 #[ptr a] w (Ret w a ok k S')
  obj : ∀ {at_ : Nat} {S S' : Ps} {k : Nat} {ks : List Nat}, run n (.obj [] [] at_) S = some (k, ks, S') → ∀ {w : World} {a : Nat} {ok : Nat → Prop} {v : Value}, PI w a ok v S → Calls Try.prog 107 #[ptr a, .agg #[.int .i64 0, .int .i64 0, .string ⟨#[]⟩, .slice none 0 0, .slice none 0 0, .int .i64 at_]] w (Ret w a ok k S')
end Go.Proofs.Yticbjhicjegfoaa.Q
