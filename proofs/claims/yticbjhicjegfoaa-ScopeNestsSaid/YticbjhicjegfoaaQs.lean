/- Rows of texts beside the parser. -/
import Derived.Test.YticbjhicjegfoaaQq
import Derived.Test.YticbjhicjegfoaaQU
namespace Go.Proofs.Yticbjhicjegfoaa.Q
open Go.RowKit
open Go.Proofs.YticbjhicjegfoaaW.PrintWords

theorem N_tightS {e base : Nat} {ok : Nat → Prop} {w : World} {v : Value} {xs : List ByteArray} (h : Kd.N Kd.string e w base ok v xs) : Kd.N Kd.string e w base (fun k => some k = v.ownBlock) v xs := by
  obtain ⟨h0, rows, hl, hR, hf⟩ := h
  exact ⟨fun k hk => hk.symm, rows, hl, hR, fun j x c hx hc W' _ => by have h1 := Kd.FK_now (hf j x c hx hc); exact h1⟩
theorem N_tightI {e base : Nat} {ok : Nat → Prop} {w : World} {v : Value} {xs : List Int} (h : Kd.N (Kd.int .i64) e w base ok v xs) : Kd.N (Kd.int .i64) e w base (fun k => some k = v.ownBlock) v xs := by
  obtain ⟨h0, rows, hl, hR, hf⟩ := h
  exact ⟨fun k hk => hk.symm, rows, hl, hR, fun j x c hx hc W' _ => by have h1 := Kd.FK_now (hf j x c hx hc); exact h1⟩
theorem N_typ {α : Type} {d : Kd α} {e base k : Nat} {ok : Nat → Prop} {w : World} {v : Value} {xs : List α} (h : Kd.N d e w base ok v xs) (hk : v.ownBlock = some k) : ∃ cells, w.heap[k]? = some (.cells cells e (0, 0)) := by
  obtain ⟨_, rows, _, hR, _⟩ := h
  obtain ⟨inner, ho⟩ := Kd.R_own hR
  exact own_typed ho k hk
/-- A row of texts of the call's own, made since there were n0 blocks. -/
def SR (n0 : Nat) (w : World) (a : Nat) (ok : Nat → Prop) (val : Value) (l : List ByteArray) : Prop :=
  Kd.N Kd.string 9 w 0 (fun k => some k = val.ownBlock) val l ∧ ∀ k, val.ownBlock = some k → n0 ≤ k ∧ k < w.heap.size ∧ ¬ ok k ∧ k ≠ a
section
variable {w0 w w' w1 : World} {a b n0 n1 n2 : Nat} {ok0 ok ok' : Nat → Prop} {v val val1 val2 : Value} {S S' : Ps} {l : List ByteArray} {ks : List Nat} {cs : Array Value} {t : ByteArray} {k : Nat}
theorem SR.nil (n0 : Nat) (w : World) (a : Nat) (ok : Nat → Prop) : SR n0 w a ok (.slice none 0 0) [] := ⟨N_tightS (ok := fun _ => False) (Kd.R_N (Kd.R_nil _ _ _ _ _)), fun k hk => by simp [Value.ownBlock] at hk⟩
theorem SR.keep (h : SR n0 w a ok val l) (hk : ∀ k, val.ownBlock = some k → w'.heap[k]? = w.heap[k]?) (hs : w.heap.size ≤ w'.heap.size) (ho : ∀ k, ok' k → ok k ∨ w.heap.size ≤ k) : SR n0 w' a ok' val l :=
  ⟨Kd.N_step h.1 (fun k hk' _ => hk k hk'.symm), fun k hk' => ⟨(h.2 k hk').1, Nat.lt_of_lt_of_le (h.2 k hk').2.1 hs, fun hok => (ho k hok).elim (h.2 k hk').2.2.1 (fun q => by have := (h.2 k hk').2.1; omega), (h.2 k hk').2.2.2⟩⟩
theorem SR.mv (h : SR n0 w a ok val l) (m : Mv w a ok w' ok') : SR n0 w' a ok' val l := h.keep (fun k hk => m.kp.block k (h.2 k hk).2.1 (fun q => q.elim (h.2 k hk).2.2.2 (h.2 k hk).2.2.1)) m.kp.size m.sub
theorem SR.below (h : SR n0 w a ok val l) (hb : Below w.heap.size w w') : SR n0 w' a ok val l := h.keep (fun k hk => hb.block k (h.2 k hk).2.1) hb.size (fun _ h => .inl h)
theorem SR.setB (h : SR n0 w a ok val l) (hb : b < n0) (i : Nat) (u : Value) : SR n0 (w.setCell ⟨b, i, none⟩ u) a ok val l := h.keep (fun k hk => Below.heap_setCell _ _ _ _ (fun e => by have := (h.2 k hk).1; have : k = b := e; omega)) (by simp) (fun _ h => .inl h)
theorem SR.slice (h : SR n0 w a ok val l) : ∃ A c, val = .slice A l.length c := Kd.N_slice h.1
theorem SR.le (h : SR n0 w a ok val l) (hn : n1 ≤ n0) : SR n1 w a ok val l := ⟨h.1, fun k hk => ⟨Nat.le_trans hn (h.2 k hk).1, (h.2 k hk).2⟩⟩
theorem NB.grown (h : NB n2 w a ok b cs) (hl : SR n0 w a ok val l) (hb : b < n0) (hg : w.grownBy w1 val.ownBlock) : NB n2 w1 a ok b cs := ⟨(hg.block b h.lt (fun e => by have := (hl.2 b e.symm).1; omega)).trans h.1, h.2⟩
theorem NB.grownL (h : NB n2 w a ok b cs) (hl : LR n0 w a ok val ks) (hb : b < n0) (hg : w.grownBy w1 val.ownBlock) : NB n2 w1 a ok b cs := by
  obtain ⟨okl, h1, h2⟩ := hl
  exact ⟨(hg.block b h.lt (fun e => by have := (h2 b (h1.1 b e.symm)).1; omega)).trans h.1, h.2⟩
theorem At.grownS (h : At w0 a ok0 w ok v S) (hl : SR n0 w a ok val l) (h0 : w0.heap.size ≤ n0) (hg : w.grownBy w1 val.ownBlock) : At w0 a ok0 w1 ok v S := by
  have hk : Kp (fun k => val.ownBlock = some k) w w1 := Kp.grown hg (fun k e => e)
  exact ⟨h.p.kept hk (fun e => (hl.2 a e).2.2.2 rfl) (fun k hk' e => (hl.2 k e).2.2.1 hk'), h.kp.trans hk (fun k e => .inr (Nat.le_trans h0 (hl.2 k e).1)), h.sub⟩
/-- The other row has grown. -/
theorem SR.grownL (h : SR n0 w a ok val l) (hl : LR n2 w a ok val2 ks) (hg : w.grownBy w1 val2.ownBlock) : SR n0 w1 a ok val l := by
  obtain ⟨okl, h1, _⟩ := hl
  refine h.keep (fun k hk => hg.block k (h.2 k hk).2.1 (fun e => ?_)) hg.size (fun _ h => .inl h)
  obtain ⟨c1, e1⟩ := N_typ h.1 hk
  obtain ⟨c2, e2⟩ := N_typ h1 e.symm
  rw [e1] at e2
  injection e2 with e2
  injection e2 with _ e2
  exact absurd e2 (by decide)
theorem LR.grownS (hl : LR n2 w a ok val2 ks) (h : SR n0 w a ok val l) (hg : w.grownBy w1 val.ownBlock) : LR n2 w1 a ok val2 ks := by
  obtain ⟨okl, h1, h2⟩ := hl
  refine ⟨_, Kd.N_step (N_tightI h1) (fun k hk hlt => hg.block k hlt (fun e => ?_)), fun k hk => ?_⟩
  · obtain ⟨c1, e1⟩ := N_typ h.1 e.symm
    obtain ⟨c2, e2⟩ := N_typ h1 hk.symm
    rw [e1] at e2
    injection e2 with e2
    injection e2 with _ e2
    exact absurd e2 (by decide)
  · have := h2 k (h1.1 k hk.symm)
    exact ⟨this.1, Nat.lt_of_lt_of_le this.2.1 hg.size, this.2.2⟩
/-- A node with names and kids beside the parser. -/
theorem put_both (h : At w0 a ok0 w ok v S) (hs : SR w0.heap.size w a ok val l) (hl : LR w0.heap.size w a ok val2 ks) {kind num : Int} {text : ByteArray} {at_ : Nat} (hp : S.put ⟨kind, num, text, l, ks, at_⟩ = some (k, S')) :
    Calls Try.prog 30 #[ptr a, .agg #[.int .i64 kind, .int .i64 num, .string text, val, val2, .int .i64 at_]] w fun e w' => e = .returned (.int .i64 k) ∧ Nx w0 a ok0 w' S' := by
  obtain ⟨okl, h1, h2⟩ := hl
  obtain ⟨A, c, e⟩ := Kd.N_slice h1
  obtain ⟨A3, c3, e3⟩ := hs.slice
  subst e e3
  rw [ints_length] at h1 ⊢
  refine (put_c (okp := fun k => okl k ∨ some k = (Value.slice A3 l.length c3).ownBlock) h.p (kNd_mkF w _ ⟨kind, num, text, l, ks, at_⟩ (A3 := A3) (c3 := c3) (Kd.N_reads' hs.1).2.1 (Kd.F_mono (Kd.N_F hs.1) (fun k hk => .inr hk)) (A4 := A) (c4 := c) (by have := (Kd.N_reads' h1).2.1; exact this) (Kd.F_mono (Kd.N_F h1) (fun k hk => .inl hk))) (fun k hk => hk.elim (fun q => (h2 k q).2.2) (fun q => (hs.2 k q.symm).2.2)) hp).mono ?_
  rintro e w1 ⟨rfl, hn⟩
  obtain ⟨ok', v', h4⟩ := h.put hn (fun k hk => hk.elim (fun q => (h2 k q).1) (fun q => (hs.2 k q.symm).1))
  exact ⟨rfl, h4.nx⟩
/-- What append makes of a row of texts. -/
theorem SR.grow (hp : PI w a ok v S) (h0 : n0 ≤ w.heap.size) (h : SR n0 w a ok val l) {okn : Nat → Prop} (hN : Kd.N Kd.string 9 w1 0 okn val1 (l ++ [t])) (hat : val1.ownBlock = val.ownBlock ∨ ∃ b, val1.ownBlock = some b ∧ w.heap.size ≤ b) : SR n0 w1 a ok val1 (l ++ [t]) := by
  refine ⟨N_tightS hN, fun k hk => ?_⟩
  have hlt := Kd.N_lt hN k hk
  rcases hat with hat | ⟨b, hb, hle⟩
  · rw [hat] at hk
    exact ⟨(h.2 k hk).1, hlt, (h.2 k hk).2.2⟩
  · rw [hb] at hk
    injection hk with hk
    subst hk
    exact ⟨Nat.le_trans h0 hle, hlt, fun ho => by have := hp.lo _ ho; omega, fun e => by have := hp.lt; omega⟩
end
section
variable {ops : Array Oper} {rest : List Oper} {o : Oper} {act : Act} {Q : Exit → Act → World → Prop} {Kc : Act → World → Prop} {E : Prop}
variable {w0 w : World} {a n0 : Nat} {ok0 ok : Nat → Prop} {v val : Value} {S : Ps} {l : List ByteArray} {t : ByteArray}
theorem SR.append_wp (hgd : o.guard = none) (s x : Operand) (ho : o.op = .call { callee := .builtin .append, args := #[s, x], argTypes := #[35, 35] })
    (h : At w0 a ok0 w ok v S) (hl : SR n0 w a ok val l) (h0 : w0.heap.size ≤ n0) (h1 : n0 ≤ w.heap.size) (hm : l.length < 1048576) (hs : act.eval s = val) (hx : act.eval x = .slice (some ⟨w.heap.size, 0, none⟩) 1 1)
    (hq : ∀ val1 w1, At w0 a ok0 w1 ok v S → SR n0 w1 a ok val1 (l ++ [t]) → w.grownBy w1 val.ownBlock → wpList Try.prog ops Q rest (act.put o.dst val1) w1) :
    wpList Try.prog ops Q (o :: rest) act (w.alloc (.cells #[.string t] 9)) := by
  refine Kd.N_append Kd.string (w0 := w) 0 hgd s x 35 9 (.string ⟨#[]⟩) 16 ho Try.underlying35 infoStr rfl (by decide) (by decide) val l t [.string t] (fun j => some j = val.ownBlock ∨ w.heap.size ≤ j) (fun _ => False) hs hx (fun _ _ => rfl) (fun _ hk => hk.elim) (fun _ hk => .inr hk)
    (Kd.N_mono hl.1 (fun _ hk => .inl hk)) (Below.refl _ _) (Nat.zero_le _) (by omega) ?_
  intro val1 w1 hN _ hg hat
  exact hq val1 w1 (h.grownS hl h0 hg) (SR.grow h.p h1 hl hN hat) hg
theorem SR.append_step (hw : Region.wanted o (yielded ops act.tmps) = true) (s x : Operand) (ho : o.op = .call { callee := .builtin .append, args := #[s, x], argTypes := #[35, 35] })
    (h : At w0 a ok0 w ok v S) (hl : SR n0 w a ok val l) (h0 : w0.heap.size ≤ n0) (h1 : n0 ≤ w.heap.size) (hm : l.length < 1048576) (hs : act.eval s = val) (hx : act.eval x = .slice (some ⟨w.heap.size, 0, none⟩) 1 1)
    (hq : ∀ val1 w1, At w0 a ok0 w1 ok v S → SR n0 w1 a ok val1 (l ++ [t]) → w.grownBy w1 val.ownBlock → Kc (act.put o.dst val1) w1) :
    if Region.wanted o (yielded ops act.tmps) = true then Oper.wp Try.prog o act (w.alloc (.cells #[.string t] 9)) Kc Q else E := by
  have := Kd.N_append_step (P := Try.prog) (Q := Q) Kd.string (w0 := w) 0 hw s x 35 9 (.string ⟨#[]⟩) 16 ho Try.underlying35 infoStr rfl (by decide) (by decide) val l t [.string t] (fun j => some j = val.ownBlock ∨ w.heap.size ≤ j) (fun _ => False) hs hx (fun _ _ => rfl) (fun _ hk => hk.elim) (fun _ hk => .inr hk)
    (Kd.N_mono hl.1 (fun _ hk => .inl hk)) (Below.refl _ _) (Nat.zero_le _) (by omega) (fun val1 w1 hN _ hg hat => hq val1 w1 (h.grownS hl h0 hg) (SR.grow h.p h1 hl hN hat) hg)
  rw [if_pos hw] at this ⊢
  exact this
theorem LR.append_step {ks : List Nat} {k : Nat} (hw : Region.wanted o (yielded ops act.tmps) = true) (s x : Operand) (ho : o.op = .call { callee := .builtin .append, args := #[s, x], argTypes := #[36, 36] })
    (h : At w0 a ok0 w ok v S) (hl : LR n0 w a ok val ks) (h0 : w0.heap.size ≤ n0) (h1 : n0 ≤ w.heap.size) (hm : ks.length < 1048576) (hs : act.eval s = val) (hx : act.eval x = .slice (some ⟨w.heap.size, 0, none⟩) 1 1)
    (hq : ∀ val1 w1, At w0 a ok0 w1 ok v S → LR n0 w1 a ok val1 (ks ++ [k]) → w.grownBy w1 val.ownBlock → Kc (act.put o.dst val1) w1) :
    if Region.wanted o (yielded ops act.tmps) = true then Oper.wp Try.prog o act (w.alloc (.cells #[.int .i64 k] 3)) Kc Q else E := by
  obtain ⟨okl, h3, h4⟩ := id hl
  have := Kd.N_append_step (P := Try.prog) (Q := Q) (Kd.int .i64) (w0 := w) 0 hw s x 36 3 (.int .i64 0) 8 ho Try.underlying36 infoInt rfl (by decide) (by decide) val (ints ks) (k : Int) [.int .i64 k] (fun j => okl j ∨ w.heap.size ≤ j) (fun _ => False) hs hx (fun _ _ => rfl) (fun _ hk => hk.elim) (fun _ hk => .inr hk)
    (Kd.N_mono h3 (fun _ hk => .inl hk)) (Below.refl _ _) (Nat.zero_le _) (by rw [ints_length]; omega) (fun val1 w1 hN _ hg _ => by
      have e : ints ks ++ [(k : Int)] = ints (ks ++ [k]) := by simp [ints]
      rw [e] at hN
      exact hq val1 w1 (h.grown hl h0 hg) (LR.grow h.p h1 h4 hN) hg)
  rw [if_pos hw] at this ⊢
  exact this
end
end Go.Proofs.Yticbjhicjegfoaa.Q
