/- Statements, blocks, expressions: the parser's first walks. -/
import Derived.Test.YticbjhicjegfoaaQh
import Derived.Deep.LoopGhost
namespace Go.Proofs.Yticbjhicjegfoaa.Q
open Go.RowKit
open Go.Proofs.YticbjhicjegfoaaW.PrintWords

theorem some3 {k k' : Nat} {ks ks' : List Nat} {S S' : Ps} (h : (some (k, ks, S) : Ans) = some (k', ks', S')) : k = k' ∧ ks = ks' ∧ S = S' := by
  injection h with h
  injection h with h1 h
  injection h with h2 h3
  exact ⟨h1, h2, h3⟩
theorem one1_some {r : Option (Nat × Ps)} {k : Nat} {ks : List Nat} {S' : Ps} (h : one1 r = some (k, ks, S')) : r = some (k, S') ∧ ks = [] := by
  cases r with
  | none => cases h
  | some x =>
    obtain ⟨rfl, rfl, rfl⟩ := some3 h
    exact ⟨rfl, rfl⟩
section
variable {n k : Nat} {ks : List Nat} {S S' : Ps} {w : World} {a : Nat} {ok : Nat → Prop} {v : Value}
set_option maxHeartbeats 800000 in
set_option maxRecDepth 100000 in
theorem e_w (G : ∀ m, m < n → Good m) (hr : run n .e S = some (k, ks, S')) (h : PI w a ok v S) : Calls Try.prog 85 #[ptr a] w (Ret w a ok k S') := by
  cases n with
  | zero => cases hr
  | succ n =>
  have hG := G n (Nat.lt_succ_self n)
  change eF (run n) S = _ at hr
  unfold eF at hr
  have c9 := h.c9
  split at hr
  · rename_i hb
    obtain ⟨rfl, rfl, rfl⟩ := some3 hr
    rw [hb] at c9
    have f9 := h.f 9
    have H := hid h
    unfold ptr
    clear hr hb h G hG
    go_enter Try.func85, Try.ntmps85
    go_wp2_with fail
    go_ret
    exact ⟨ret_nat rfl, H.out.spoil⟩
  · rename_i hb
    rw [show S.bad = false by simpa using hb] at c9
    have H0 := hid (At.start h)
    split at hr
    · rename_i hi
      obtain ⟨rfl, rfl, rfl⟩ := some3 hr
      have e1 := in_c h
      rw [hi] at e1
      have HE := hid e1
      unfold ptr at HE ⊢
      clear hr hb h G hG hi e1
      go_enter Try.func85, Try.ntmps85
      go_wp2_with fail
      clear c9
      refine HE.out.mono ?_
      rintro e w1 ⟨rfl, hN⟩
      obtain ⟨ok1, v1, h1, m1⟩ := H0.out.call hN
      have H1 := hid h1
      have c9 := h1.p.c9
      have f9 := h1.p.f 9
      clear hN h1 m1 H0
      go_wp2_with fail
      go_ret
      exact ⟨ret_nat rfl, H1.out.nx.trans (fun _ _ h => h.spoil)⟩
    · rename_i hi
      obtain ⟨x, hx, hr⟩ := Option.bind_eq_some_iff.1 hr
      obtain ⟨x1, x2, x3⟩ := x
      obtain ⟨rfl, rfl, rfl⟩ := some3 hr
      have e1 := in_c h
      rw [show S.inn.bad = false by simpa using hi] at e1
      have HE := hid e1
      have HX := hid hx
      unfold ptr at HE ⊢
      clear hr hb h hi e1 hx
      go_enter Try.func85, Try.ntmps85
      go_wp2_with fail
      clear c9
      refine HE.out.mono ?_
      rintro e w1 ⟨rfl, hN⟩
      obtain ⟨ok1, v1, h1, m1⟩ := H0.out.call hN
      have H1 := hid h1
      clear hN h1 m1 H0
      go_wp2_with fail
      refine (hG.assign HX.out H1.out.p).mono ?_
      rintro e w2 ⟨rfl, hN⟩
      obtain ⟨ok2, v2, h2, m2⟩ := H1.out.call hN
      have H2 := hid h2
      clear hN h2 m2 H1
      go_wp2_with fail
      refine (out_c H2.out.p).mono ?_
      rintro e w3 ⟨rfl, hN⟩
      obtain ⟨ok3, v3, h3, m3⟩ := H2.out.call hN
      have H3 := hid h3
      clear hN h3 m3 H2
      go_wp2_with fail
      go_ret
      exact ⟨ret_nat rfl, H3.out.nx⟩
theorem At.spoil {w0 w : World} {a : Nat} {ok0 ok : Nat → Prop} {v : Value} {S : Ps} (h : At w0 a ok0 w ok v S) : Nx w0 a ok0 (w.setCell ⟨a, 9, none⟩ (.bool true)) S.spoilt := by
  obtain ⟨_, _, h', _⟩ := h.call h.p.spoil
  exact h'.nx
theorem At.spoilA {w0 w : World} {a : Nat} {ok0 ok : Nat → Prop} {v : Value} {S : Ps} (h : At w0 a ok0 w ok v S) : At w0 a ok0 (w.setCell ⟨a, 9, none⟩ (.bool true)) ok v S.spoilt :=
  ⟨h.p.set 9 _ rfl rfl, h.kp.trans (Kp.set (p := ⟨a, 9, none⟩) (K := fun k => k = a ∨ ok k) _ (.inl rfl)) (fun k hk => hk.elim (fun e => .inl (.inl e)) (fun hk => (h.sub k hk).imp .inr id)), h.sub⟩
theorem LR.set {n0 : Nat} {w : World} {a : Nat} {ok : Nat → Prop} {val : Value} {ks : List Nat} (h : LR n0 w a ok val ks) (i : Nat) (u : Value) : LR n0 (w.setCell ⟨a, i, none⟩ u) a ok val ks := by
  obtain ⟨okl, h1, h2⟩ := h
  exact ⟨okl, Kd.N_far (p := ⟨a, i, none⟩) h1 (fun k hk => (h2 k hk).2.2.2) u, fun k hk => ⟨(h2 k hk).1, by simpa using (h2 k hk).2.1, (h2 k hk).2.2⟩⟩
theorem if_f {α : Type} {b : Bool} (hb : b = false) (x y : α) : (if b = true then x else y) = y := by rw [hb]; rfl
theorem in_hit (h : PI w a ok v S) {b : Bool} (hb : S.inn.bad = b) : Calls Try.prog 61 #[ptr a] w fun e w' => e = .returned (.bool (!b)) ∧ Nx w a ok w' S.inn := by
  have := in_c h
  rwa [hb] at this
end
end Go.Proofs.Yticbjhicjegfoaa.Q
