/- Nodes put by a row beside the parser; a node read. -/
import Derived.Test.YticbjhicjegfoaaQg
import Derived.Deep.LoopGhost
namespace Go.Proofs.Yticbjhicjegfoaa.Q
open Go.RowKit
open Go.Proofs.YticbjhicjegfoaaW.PrintWords

section
variable {w0 w w' : World} {a : Nat} {ok0 ok ok' : Nat → Prop} {v v' val : Value} {S S' : Ps} {ks : List Nat} {k : Nat}
/-- put, of a node whose kids are a row beside the parser. -/
theorem put_row (h : At w0 a ok0 w ok v S) (hl : LR w0.heap.size w a ok val ks) {kind num : Int} {text : ByteArray} {at_ : Nat} (hs : S.put ⟨kind, num, text, [], ks, at_⟩ = some (k, S')) :
    Calls Try.prog 30 #[ptr a, .agg #[.int .i64 kind, .int .i64 num, .string text, .slice none 0 0, val, .int .i64 at_]] w fun e w' => e = .returned (.int .i64 k) ∧ Nx w0 a ok0 w' S' := by
  obtain ⟨okp, h1, h2, h3⟩ := hl.node (Nat.le_refl _) kind num text at_
  refine (put_c h.p h1 h2 hs).mono ?_
  rintro e w1 ⟨rfl, hp⟩
  obtain ⟨ok', v', h4⟩ := h.put hp h3
  exact ⟨rfl, h4.nx⟩
theorem put_nil (h : At w0 a ok0 w ok v S) {kind num : Int} {text : ByteArray} {at_ : Nat} (hs : S.put ⟨kind, num, text, [], [], at_⟩ = some (k, S')) :
    Calls Try.prog 30 #[ptr a, .agg #[.int .i64 kind, .int .i64 num, .string text, .slice none 0 0, .slice none 0 0, .int .i64 at_]] w fun e w' => e = .returned (.int .i64 k) ∧ Nx w0 a ok0 w' S' :=
  put_row h (LR.nil _ _ _ _) hs
/-- A row of numbers, written down. -/
theorem LR.lit (h : At w0 a ok0 w ok v S) (ks : List Nat) (hm : ks.length ≤ 1000) : LR w0.heap.size (w.alloc (.cells (ks.map (fun k => Value.int .i64 (k : Nat))).toArray 3)) a ok (.slice (some ⟨w.heap.size, 0, none⟩) ks.length ks.length) ks := by
  have ho := World.ownsRow_lit (base := w.heap.size) (e := 3) (size := 1) w (ks.map (fun k => Value.int .i64 (k : Nat))).toArray ks.length (Nat.le_refl _) (by unfold maxLen; omega) (by simp)
  have hR : Kd.R (Kd.int .i64) 3 (w.alloc (.cells (ks.map (fun k => Value.int .i64 (k : Nat))).toArray 3)) w.heap.size (fun j => j = w.heap.size) (.slice (some ⟨w.heap.size, 0, none⟩) ks.length ks.length) (ints ks) := by
    refine ⟨fun j hj => by simpa [Value.ownBlock] using hj.symm, ks.map (fun k => Value.int .i64 (k : Nat)), by rw [ints_length]; exact ho, by simp [ints, Kd.int, Kd.scalar], fun j p hp => ?_⟩
    have hj : j < ks.length := by have := (List.getElem?_eq_some_iff.1 hp).1; simpa [ints] using this
    have hp' : p = (ks[j] : Int) := by simpa [ints, List.getElem?_eq_getElem hj] using hp.symm
    subst hp'
    show ((ks.map (fun k => Value.int .i64 (k : Nat))).drop (j * 1)).take 1 = [Value.int .i64 (ks[j] : Nat)]
    rw [Nat.mul_one, List.drop_eq_getElem_cons (by simpa using hj)]
    simp
  refine ⟨_, Kd.N_lower (Kd.R_N hR) (Nat.zero_le _), fun j hj => ?_⟩
  subst hj
  exact ⟨h.kp.size, by simp, fun ho => by have := h.p.lo _ ho; omega, fun e => by have := h.p.lt; omega⟩
theorem LR.two (h : At w0 a ok0 w ok v S) (k1 k2 : Nat) : LR w0.heap.size (w.alloc (.cells #[.int .i64 k1, .int .i64 k2] 3)) a ok (.slice (some ⟨w.heap.size, 0, none⟩) 2 2) [k1, k2] := LR.lit h [k1, k2] (by simp)
theorem LR.three (h : At w0 a ok0 w ok v S) (k1 k2 k3 : Nat) : LR w0.heap.size (w.alloc (.cells #[.int .i64 k1, .int .i64 k2, .int .i64 k3] 3)) a ok (.slice (some ⟨w.heap.size, 0, none⟩) 3 3) [k1, k2, k3] := LR.lit h [k1, k2, k3] (by simp)
theorem At.alloc (h : At w0 a ok0 w ok v S) (o : Obj) : At w0 a ok0 (w.alloc o) ok v S := h.below ((Below.refl _ _).alloc (Nat.le_refl _) _)
/-- A node of the parser's, read. -/
theorem PI.node (h : PI w a ok v S) {n : Nd} (hk : S.l[k]? = some n) : ∃ g cap, v = .slice (some ⟨g, 0, none⟩) S.l.length cap ∧ g < w.heap.size ∧ k < S.l.length ∧ w.cell? ⟨g, k * 6, none⟩ = some (.int .i64 n.kind) ∧ w.cell? ⟨g, k * 6 + 5, none⟩ = some (.int .i64 n.at_) := by
  have hlt := (List.getElem?_eq_some_iff.1 hk).1
  obtain ⟨g, cap, e, _, hg, _⟩ := Kd.N_form h.row (by omega)
  have hrow := h.row
  rw [e] at hrow
  obtain ⟨c, hcl, hF, hcc, _⟩ := Kd.N_elem hrow n (k : Int) (by omega) (by omega)
  have hx : S.l.getD ((k : Int)).toNat n = n := by simp [List.getD_eq_getElem?_getD, hk]
  rw [hx] at hF
  obtain ⟨A3, c3, A4, c4, rfl, _⟩ := kNd_open (Kd.FK_now hF)
  have h0 := hcc 0 (.int .i64 n.kind) rfl
  have h5 := hcc 5 (.int .i64 n.at_) rfl
  rw [Int.toNat_natCast] at h0 h5
  exact ⟨g, cap, e, hg, hlt, h0, h5⟩
end
section
variable {P : Program} {ops : Array Oper} {rest : List Oper} {o : Oper} {act : Act} {Q : Exit → Act → World → Prop}
variable {w0 w : World} {a : Nat} {ok0 ok : Nat → Prop} {v val : Value} {S : Ps} {ks : List Nat} {k : Nat}
/-- append(row, k), the row beside the parser. -/
theorem LR.append_wp (hgd : o.guard = none) (s x : Operand) (ho : o.op = .call { callee := .builtin .append, args := #[s, x], argTypes := #[36, 36] })
    (h : At w0 a ok0 w ok v S) (hl : LR w0.heap.size w a ok val ks) (hm : ks.length < 1048576) (hs : act.eval s = val) (hx : act.eval x = .slice (some ⟨w.heap.size, 0, none⟩) 1 1)
    (hq : ∀ val1 w1, At w0 a ok0 w1 ok v S → LR w0.heap.size w1 a ok val1 (ks ++ [k]) → wpList Try.prog ops Q rest (act.put o.dst val1) w1) :
    wpList Try.prog ops Q (o :: rest) act (w.alloc (.cells #[.int .i64 k] 3)) := by
  obtain ⟨okl, h1, h2⟩ := id hl
  refine Kd.N_append (Kd.int .i64) (w0 := w) 0 hgd s x 36 3 (.int .i64 0) 8 ho Try.underlying36 infoInt rfl (by decide) (by decide) val (ints ks) (k : Int) [.int .i64 k] (fun j => okl j ∨ w.heap.size ≤ j) (fun _ => False) hs hx (fun _ _ => rfl) (fun _ hk => hk.elim) (fun _ hk => .inr hk)
    (Kd.N_mono h1 (fun _ hk => .inl hk)) (Below.refl _ _) (Nat.zero_le _) (by rw [ints_length]; omega) ?_
  intro val1 w1 hN _ hg _
  have e : ints ks ++ [(k : Int)] = ints (ks ++ [k]) := by simp [ints]
  rw [e] at hN
  exact hq val1 w1 (h.grown hl (Nat.le_refl _) hg) (LR.grow h.p h.kp.size h2 hN)
end
open Go.Proofs.YticbjhicjegfoaaW.PrintWords

theorem some3 {k k' : Nat} {ks ks' : List Nat} {S S' : Ps} (h : (some (k, ks, S) : Ans) = some (k', ks', S')) : k = k' ∧ ks = ks' ∧ S = S' := by
  injection h with h
  injection h with h1 h
  injection h with h2 h3
  exact ⟨h1, h2, h3⟩
theorem one1_some {r : Option (Nat × Ps)} {k : Nat} {ks : List Nat} {S' : Ps} (h : one1 r = some (k, ks, S')) : r = some (k, S') ∧ ks = [] := by
  cases r with
  | none => cases h
  | some x =>
    obtain ⟨rfl, rfl, rfl⟩ := some3 h
    exact ⟨rfl, rfl⟩
section
variable {n k : Nat} {ks : List Nat} {S S' : Ps} {w : World} {a : Nat} {ok : Nat → Prop} {v : Value}
set_option maxHeartbeats 800000 in
set_option maxRecDepth 100000 in
theorem e_w (G : ∀ m, m < n → Good m) (hr : run n .e S = some (k, ks, S')) (h : PI w a ok v S) : Calls Try.prog 85 #[ptr a] w (Ret w a ok k S') := by
  cases n with
  | zero => cases hr
  | succ n =>
  have hG := G n (Nat.lt_succ_self n)
  change eF (run n) S = _ at hr
  unfold eF at hr
  have c9 := h.c9
  split at hr
  · rename_i hb
    obtain ⟨rfl, rfl, rfl⟩ := some3 hr
    rw [hb] at c9
    have f9 := h.f 9
    have H := hid h
    unfold ptr
    clear hr hb h G hG
    go_enter Try.func85, Try.ntmps85
    go_wp2_with fail
    go_ret
    exact ⟨ret_nat rfl, H.out.spoil⟩
  · rename_i hb
    rw [show S.bad = false by simpa using hb] at c9
    have H0 := hid (At.start h)
    split at hr
    · rename_i hi
      obtain ⟨rfl, rfl, rfl⟩ := some3 hr
      have e1 := in_c h
      rw [hi] at e1
      have HE := hid e1
      unfold ptr at HE ⊢
      clear hr hb h G hG hi e1
      go_enter Try.func85, Try.ntmps85
      go_wp2_with fail
      clear c9
      refine HE.out.mono ?_
      rintro e w1 ⟨rfl, hN⟩
      obtain ⟨ok1, v1, h1, m1⟩ := H0.out.call hN
      have H1 := hid h1
      have c9 := h1.p.c9
      have f9 := h1.p.f 9
      clear hN h1 m1 H0
      go_wp2_with fail
      go_ret
      exact ⟨ret_nat rfl, H1.out.nx.trans (fun _ _ h => h.spoil)⟩
    · rename_i hi
      obtain ⟨x, hx, hr⟩ := Option.bind_eq_some_iff.1 hr
      obtain ⟨x1, x2, x3⟩ := x
      obtain ⟨rfl, rfl, rfl⟩ := some3 hr
      have e1 := in_c h
      rw [show S.inn.bad = false by simpa using hi] at e1
      have HE := hid e1
      have HX := hid hx
      unfold ptr at HE ⊢
      clear hr hb h hi e1 hx
      go_enter Try.func85, Try.ntmps85
      go_wp2_with fail
      clear c9
      refine HE.out.mono ?_
      rintro e w1 ⟨rfl, hN⟩
      obtain ⟨ok1, v1, h1, m1⟩ := H0.out.call hN
      have H1 := hid h1
      clear hN h1 m1 H0
      go_wp2_with fail
      refine (hG.assign HX.out H1.out.p).mono ?_
      rintro e w2 ⟨rfl, hN⟩
      obtain ⟨ok2, v2, h2, m2⟩ := H1.out.call hN
      have H2 := hid h2
      clear hN h2 m2 H1
      go_wp2_with fail
      refine (out_c H2.out.p).mono ?_
      rintro e w3 ⟨rfl, hN⟩
      obtain ⟨ok3, v3, h3, m3⟩ := H2.out.call hN
      have H3 := hid h3
      clear hN h3 m3 H2
      go_wp2_with fail
      go_ret
      exact ⟨ret_nat rfl, H3.out.nx⟩
theorem At.spoil {w0 w : World} {a : Nat} {ok0 ok : Nat → Prop} {v : Value} {S : Ps} (h : At w0 a ok0 w ok v S) : Nx w0 a ok0 (w.setCell ⟨a, 9, none⟩ (.bool true)) S.spoilt := by
  obtain ⟨_, _, h', _⟩ := h.call h.p.spoil
  exact h'.nx
theorem At.spoilA {w0 w : World} {a : Nat} {ok0 ok : Nat → Prop} {v : Value} {S : Ps} (h : At w0 a ok0 w ok v S) : At w0 a ok0 (w.setCell ⟨a, 9, none⟩ (.bool true)) ok v S.spoilt :=
  ⟨h.p.set 9 _ rfl rfl, h.kp.trans (Kp.set (p := ⟨a, 9, none⟩) (K := fun k => k = a ∨ ok k) _ (.inl rfl)) (fun k hk => hk.elim (fun e => .inl (.inl e)) (fun hk => (h.sub k hk).imp .inr id)), h.sub⟩
theorem LR.set {n0 : Nat} {w : World} {a : Nat} {ok : Nat → Prop} {val : Value} {ks : List Nat} (h : LR n0 w a ok val ks) (i : Nat) (u : Value) : LR n0 (w.setCell ⟨a, i, none⟩ u) a ok val ks := by
  obtain ⟨okl, h1, h2⟩ := h
  exact ⟨okl, Kd.N_far (p := ⟨a, i, none⟩) h1 (fun k hk => (h2 k hk).2.2.2) u, fun k hk => ⟨(h2 k hk).1, by simpa using (h2 k hk).2.1, (h2 k hk).2.2⟩⟩
theorem if_f {α : Type} {b : Bool} (hb : b = false) (x y : α) : (if b = true then x else y) = y := by rw [hb]; rfl
theorem in_hit (h : PI w a ok v S) {b : Bool} (hb : S.inn.bad = b) : Calls Try.prog 61 #[ptr a] w fun e w' => e = .returned (.bool (!b)) ∧ Nx w a ok w' S.inn := by
  have := in_c h
  rwa [hb] at this
end
end Go.Proofs.Yticbjhicjegfoaa.Q
