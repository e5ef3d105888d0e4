/- What a proof further on needs (part m). -/
import Derived.Test.YticbjhicjegfoaaKl
set_option linter.unusedVariables false
namespace Go.Proofs.Yticbjhicjegfoaa.Q
open Go.RowKit
open Go.Proofs.YticbjhicjegfoaaW.PrintWords
section
variable {G : EG} {w : World} {okb oks okp : Nat → Prop} {bv v v1 v2 : Value} {bad bad' : List Nat} {a : Ar} {m : Nat} {ks : List Nat} {ahead : List ByteArray} {A A4 : Option Addr} {c c4 n0 : Nat} {o : Opn}
theorem FK_opn {ok : Nat → Prop} (h1 : OS n0 w v1 o.1) (h2 : OB n0 w v2 o.2) (k1 : ∀ k, v1.ownBlock = some k → ok k) (k2 : ∀ k, v2.ownBlock = some k → ok k) : ∃ A1 c1 A2 c2, v1 = .slice A1 o.1.length c1 ∧ v2 = .slice A2 o.2.length c2 ∧ Kd.FK kOpn w ok o [v1, v2] := by
  obtain ⟨A1, c1, rfl⟩ := h1.slice
  obtain ⟨A2, c2, rfl⟩ := h2.slice
  have f1 := Kd.FK_slice_mk (e := 9) (Kd.N_reads' h1.1).2.1 (Kd.F_mono (Kd.N_F h1.1) (fun k q => k1 k q.symm))
  have f2 := Kd.FK_slice_mk (e := 4) (Kd.N_reads' h2.1).2.1 (Kd.F_mono (Kd.N_F h2.1) (fun k q => k2 k q.symm))
  exact ⟨A1, c1, A2, c2, rfl, rfl, fun W' hW => ⟨_, _, rfl, f1 W' hW, f2 W' hW⟩⟩
set_option maxHeartbeats 3200000 in
set_option maxRecDepth 100000 in
theorem withinE_c (ih : LookOkE G m) (hr : withinE G.l (lookE G.l G.spots G.slots m) a ahead ks bad = some bad') (h : EI G w okb bv bad) (ha : AE w oks v a) (ho : ∀ k, oks k → k ≠ G.a ∧ ¬ okb k ∧ k < w.heap.size) (hah : Kd.F Kd.string w okp A ahead.length ahead) (hk : Kd.F (Kd.int .i64) w G.okl A4 ks.length (ints ks)) :
    Calls Try.prog 55 #[ptr G.a, arV a v, .slice A ahead.length c, .slice A4 ks.length c4] w fun e w' => e = .returned (.tuple #[]) ∧ EN G w okb w' bad' := by
  unfold withinE at hr
  split at hr
  · rename_i hcap
    obtain ⟨x, hx, hr⟩ := Option.bind_eq_some_iff.1 hr
    have hs1 : a.scopes.length < 1048576 := hcap.1
    have ha1 : ahead.length < 1048576 := hcap.2
    obtain ⟨Av, cv, rfl, _⟩ := id ha
    have hb : Below w.heap.size w (w.alloc (.cells #[.bool a.loop, .bool a.fun_, .bool a.gen, .slice Av a.scopes.length cv] 83)) := (Below.refl _ _).alloc (Nat.le_refl _) _
    have r5 := heap_alloc_new w (.cells #[.bool a.loop, .bool a.fun_, .bool a.gen, .slice Av a.scopes.length cv] 83)
    have H := hid h
    have HA := hid (ha.below hb)
    have HK := hid (Kd.F_below hk hb)
    have HH := hid (Kd.F_below hah hb)
    have HO := hid ho
    have HB := hid hb
    have R5 := hid r5
    have HR := hid hr
    have HX := hid hx
    have IH := hid @ih
    have HZ := hid (show (w.alloc (.cells #[.bool a.loop, .bool a.fun_, .bool a.gen, .slice Av a.scopes.length cv] 83)).heap.size = w.heap.size + 1 by simp)
    clear h ha hb r5 hk hah hr hx ih ho hcap
    unfold ptr arV
    go_enter Try.func55, Try.ntmps55
    go_wp2_with fail
    generalize (w.alloc (.cells #[.bool a.loop, .bool a.fun_, .bool a.gen, .slice Av a.scopes.length cv] 83)) = W at *
    refine (cloneO_c HA.out (fun k hk => by have := (HO.out k hk).2.2; have := HZ.out; omega) (Nat.le_of_lt hs1)).mono ?_
    rintro e w1 ⟨val, rfl, hN, hv, hb1⟩
    have HN := hid hN
    have HV := hid hv
    have HB1 := hid hb1
    clear hN hv hb1
    go_wp2_with fail
    have hI1 := (H.out.below HB.out).below HB1.out
    have hsc := scopeE_c (c := c) (c4 := c4) hI1 (Kd.F_below HH.out HB1.out) (Nat.le_of_lt ha1) (Kd.F_below HK.out HB1.out) HX.out
    unfold ptr at hsc
    refine hsc.mono ?_
    rintro e w2 ⟨v1, v2, o2, bv2, rfl, h2, k2, s2, hos, hob, hne⟩
    have n2 : ∀ k, w.heap.size ≤ k → ¬ okb k := fun k hk q => by have := (H.out.off k q).2.2.2.2; omega
    have hz := HZ.out
    have hw1 := HB1.out.size
    have hvl : ∀ k, val.ownBlock = some k → W.heap.size ≤ k ∧ k < w1.heap.size := fun k q => ⟨HV.out k q, Kd.N_lt HN.out k q⟩
    have hN2 : Kd.N kOpn 119 w2 0 (fun k => (oks k ∨ w.heap.size < k) ∧ ¬ o2 k) val a.scopes := by
      refine Kd.N_mono (Kd.N_kept (Kd.N_bound HN.out) k2.kept (fun j hj q => ?_)) (fun j hj => ⟨hj.1.imp id (fun q => by omega), fun q => ?_⟩)
      · rcases hj.1 with q1 | q1
        · exact q.elim (HO.out j q1).1 (HO.out j q1).2.1
        · exact q.elim (fun q => by have := H.out.lt.1; omega) (n2 j (by omega))
      · rcases s2 j q with q1 | q1
        · exact hj.1.elim (fun q2 => (HO.out j q2).2.1 q1) (fun q2 => n2 j (by omega) q1)
        · have := hj.2; omega
    have r2 := k2.heap ((HB1.out.block _ (Array.getElem?_eq_some_iff.1 R5.out).1).trans R5.out) (fun q => q.elim (fun q => by have := H.out.lt.1; omega) (n2 _ (Nat.le_refl _)))
    have q3 := (cell_of_row _ _ 3 _ _ _ r2).trans (b := some (Value.slice Av a.scopes.length cv)) rfl
    have f3 : w2.frozen? ⟨w.heap.size, 3, none⟩ = false := by simp [World.frozen?, r2]
    obtain ⟨A1, c1, A2, c2, e1, e2, hfk⟩ := FK_opn (ok := fun k => w1.heap.size ≤ k ∧ ¬ o2 k) hos hob (fun k q => ⟨(hos.2 k q).1, hne k (.inl q)⟩) (fun k q => ⟨(hob.2 k q).1, hne k (.inr q)⟩)
    subst e1
    subst e2
    obtain ⟨A5, c5, ev⟩ := Kd.N_slice hN2
    subst ev
    have H2 := hid h2
    have K2 := hid k2
    have S2 := hid s2
    have HVL := hid hvl
    have HN2 := hid hN2
    have HFK := hid hfk
    have R2 := hid r2
    have HW := hid hw1
    have N2 := hid n2
    clear h2 k2 s2 hos hob hne hvl hN2 hfk r2 hz hw1 n2 HN HV hsc
    go_wp2_with (at_builtin; refine Kd.N_append kOpn (w0 := w2) 0 rfl _ _ 81 119 (.agg #[.slice none 0 0, .slice none 0 0]) 48 rfl Try.underlying81 infoOpen rfl (by decide) (by decide) (.slice A5 a.scopes.length c5) a.scopes x.1 [.slice A1 x.1.1.length c1, .slice A2 x.1.2.length c2] (fun k => (oks k ∨ w.heap.size < k) ∧ ¬ o2 k) (fun k => w1.heap.size ≤ k ∧ ¬ o2 k) ?c1 ?c2 HFK.out ?c3 ?c4 HN2.out (Below.refl _ _) (Nat.zero_le _) (by omega) ?_; (case c1 => rfl); (case c2 => rfl); (case c3 => exact fun k hk => ⟨⟨.inr (by have := HW.out; have := HZ.out; omega), hk.2⟩, fun e => by have := (HVL.out k e.symm).2; omega⟩); (case c4 => exact fun k hk => ⟨.inr (by have := HW.out; have := HZ.out; have := K2.out.size; omega), fun q => by have := (H2.out.off k q).2.2.2.2; omega⟩); intro v3 w3 hN3 _ hg3 hat3; obtain ⟨A3, c3, ev⟩ := Kd.N_slice hN3; subst ev; have HN3 := hid hN3; have HG3 := hid hg3; have hp3 : w3.heap[w.heap.size]? = w2.heap[w.heap.size]? := hg3.block _ (Array.getElem?_eq_some_iff.1 R2.out).1 (fun e => by have := (HVL.out _ e.symm).1; have := HZ.out; omega); have p3 : w3.cell? ⟨w.heap.size, 3, none⟩ = some (.slice Av a.scopes.length cv) := (World.cell?_of_block (w := w2) (a := ⟨w.heap.size, 3, none⟩) hp3).trans q3; have g3 : w3.frozen? ⟨w.heap.size, 3, none⟩ = false := (World.frozen?_of_block (w := w2) (a := ⟨w.heap.size, 3, none⟩) hp3).trans f3; have R3 := hid (hp3.trans R2.out); have p0 := (cell_of_row _ _ 0 _ _ _ R3.out).trans (b := some (Value.bool a.loop)) rfl; have p1 := (cell_of_row _ _ 1 _ _ _ R3.out).trans (b := some (Value.bool a.fun_)) rfl; have p2 := (cell_of_row _ _ 2 _ _ _ R3.out).trans (b := some (Value.bool a.gen)) rfl; clear hN3 hg3 hat3 hp3 q3 f3)
    have hz := HZ.out
    have hw := HW.out
    have k4 : Kp (fun k => (Value.slice A5 a.scopes.length c5).ownBlock = some k ∨ k = w.heap.size) w2 (w3.setCell ⟨w.heap.size, 3, none⟩ (.slice A3 (a.scopes.length + 1) c3)) := ((Kp.grown HG3.out (fun k q => q)).mono (fun k q => .inl q)).trans (Kp.set (K := fun k => k = w.heap.size) (p := ⟨w.heap.size, 3, none⟩) _ rfl) (fun k q => .inl (.inr q))
    have hK : ∀ k, ((Value.slice A5 a.scopes.length c5).ownBlock = some k ∨ k = w.heap.size) → w.heap.size ≤ k ∧ k < w1.heap.size := fun k q => q.elim (fun q => by have := HVL.out k q; omega) (fun q => by omega)
    have hlt := H.out.lt
    have h4 := H2.out.kp k4 ⟨fun q => by have := hK _ q; omega, fun q => by have := hK _ q; omega, fun q => by have := hK _ q; omega⟩ (fun k q1 q => by have := hK _ q; have := (H.out.offl k q1).2; omega) (fun k q1 q => by have := hK _ q; exact (S2.out k q1).elim (N2.out k this.1) (fun q => by omega))
    have e3 : (a.scopes ++ [x.1]).length = a.scopes.length + 1 := by simp
    have hN4 := Kd.N_far (p := ⟨w.heap.size, 3, none⟩) (Kd.N_bound HN3.out) (fun k q => by have := q.1; intro e; have hk : k = w.heap.size := e; subst hk; exact q.1.1.elim (fun q => by have := (HO.out _ q).2.2; omega) (fun q => by omega)) (.slice A3 (a.scopes.length + 1) c3)
    have ha4 : AE (w3.setCell ⟨w.heap.size, 3, none⟩ (.slice A3 (a.scopes.length + 1) c3)) (fun k => ((oks k ∨ w.heap.size < k) ∧ ¬ o2 k) ∧ k < w3.heap.size) (.slice A3 (a.scopes.length + 1) c3) { a with scopes := a.scopes ++ [x.1] } := by
      refine ⟨A3, c3, by rw [e3], ?_, ?_⟩
      · have := (Kd.N_reads' hN4).2.1; simpa using this
      · have := Kd.N_F hN4; exact this
    have ho4 : ∀ k, (((oks k ∨ w.heap.size < k) ∧ ¬ o2 k) ∧ k < w3.heap.size) → k ≠ G.a ∧ ¬ o2 k ∧ k < (w3.setCell ⟨w.heap.size, 3, none⟩ (.slice A3 (a.scopes.length + 1) c3)).heap.size := fun k q => ⟨q.1.1.elim (fun q => (HO.out k q).1) (fun q => by omega), q.1.2, by simpa using q.2⟩
    have kp4 : Kp (EK G okb) w (w3.setCell ⟨w.heap.size, 3, none⟩ (.slice A3 (a.scopes.length + 1) c3)) := ((Kp.of_below (K := EK G okb) (HB.out.trans (HB1.out.mono (by omega)))).trans K2.out (fun _ q => .inl q)).trans k4 (fun k q => .inr (hK k q).1)
    have hk4 := Kd.F_step HK.out (W1 := w3.setCell ⟨w.heap.size, 3, none⟩ (.slice A3 (a.scopes.length + 1) c3)) (fun j hj _ => by
      have h1 := kp4.offE H.out.offL j hj
      have h2 := HB.out.block j (H.out.offl j hj).2
      exact h1.trans h2.symm)
    have hc := allE_c @IH.out (a := { a with scopes := a.scopes ++ [x.1] }) HR.out h4 ha4 ho4 hk4 (c4 := c4)
    unfold ptr arV at hc
    have HC := hid hc
    have KP4 := hid kp4
    clear h4 ha4 ho4 hk4 hc kp4 hN4 k4 hK hz hw
    refine HC.out.mono ?_
    rintro e w5 ⟨rfl, hL⟩
    have HL := hid (EN.of KP4.out (fun k q => (S2.out k q).imp id (fun q => by have := HW.out; have := HZ.out; omega)) hL)
    clear hL
    go_wp2_with fail
    exact bodyPost_end (results_none rfl _ _ _) rfl ⟨rfl, HL.out⟩
  · cases hr
end
end Go.Proofs.Yticbjhicjegfoaa.Q
namespace Go.Proofs.Yticbjhicjegfoaa.Q
open Go.RowKit
def addsE : List Bool → Nat → List Nat → Option (List Nat)
  | [], _, bad => some bad
  | q :: l, at_, bad => (addB q at_ bad).bind fun b => addsE l at_ b
theorem addB_false (at_ : Nat) (bad : List Nat) : addB false at_ bad = some bad := rfl
def rulesL (n : Nd) (a : Ar) (q0 q1 : Bool) : List Bool := [decide (n.kind = 10) && q0, decide (n.kind = 19) && q1, (decide (n.kind = 28) || decide (n.kind = 29)) && !a.loop, decide (n.kind = 20) && !a.gen, decide (n.kind = 30) && !a.fun_]
theorem ruleF_qs {l : List Nd} {spots : List Sp} {n : Nd} {a : Ar} {r : Bool} {bad bad2 : List Nat} (hr : ruleF l spots n a = some r) (hb : addB r n.at_ bad = some bad2) : ∃ q0 q1, (n.kind = 10 → q0 = twiceF n.names ∧ n.names.length ≤ 1048576 ∧ ∀ x ∈ n.names, x.size ≤ 1048576) ∧
    (n.kind = 19 → ∃ j m, n.kids[0]? = some j ∧ l[j]? = some m ∧ ((m.kind = 3 ∧ fixedF spots a j = some q1) ∨ (m.kind ≠ 3 ∧ q1 = false))) ∧ addsE (rulesL n a q0 q1) n.at_ bad = some bad2 := by
  have one : ∀ (q : Bool) (b : List Nat), ((addB q n.at_ b).bind fun b => addsE [] n.at_ b) = addB q n.at_ b := fun q b => by
    cases addB q n.at_ b <;> rfl
  unfold ruleF at hr
  split at hr
  · rename_i h
    split at hr
    · rename_i h2
      obtain rfl := Option.some.inj hr
      simp only [Bool.and_eq_true, List.all_eq_true, Nat.ble_eq] at h2
      refine ⟨twiceF n.names, false, fun _ => ⟨rfl, h2.2, h2.1⟩, fun e => by omega, ?_⟩
      simp only [rulesL, h]
      simp [addsE, addB_false, hb]
    · cases hr
  · rename_i h10
    split at hr
    · rename_i h
      obtain ⟨j, hj, hr⟩ := Option.bind_eq_some_iff.1 hr
      obtain ⟨m, hm, hr⟩ := Option.bind_eq_some_iff.1 hr
      refine ⟨false, r, fun e => by omega, fun _ => ⟨j, m, hj, hm, ?_⟩, ?_⟩
      · split at hr
        · rename_i h3; exact .inl ⟨h3, hr⟩
        · rename_i h3; exact .inr ⟨h3, (Option.some.inj hr).symm⟩
      · simp only [rulesL, h]
        simp [addsE, addB_false, hb]
    · rename_i h19
      refine ⟨false, false, fun e => absurd e h10, fun e => absurd e h19, ?_⟩
      split at hr
      · rename_i h
        obtain rfl := Option.some.inj hr
        rcases h with h | h <;> simp only [rulesL, h] <;> simp [addsE, addB_false, hb]
      · rename_i h28
        split at hr
        · rename_i h
          obtain rfl := Option.some.inj hr
          simp only [rulesL, h]
          simp [addsE, addB_false, hb]
        · rename_i h20
          split at hr
          · rename_i h
            obtain rfl := Option.some.inj hr
            simp only [rulesL, h]
            simp [addsE, addB_false, hb]
          · rename_i h30
            obtain rfl := Option.some.inj hr
            have a1 : n.kind ≠ 28 := fun e => h28 (.inl e)
            have a2 : n.kind ≠ 29 := fun e => h28 (.inr e)
            simp only [addB_false, Option.some.injEq] at hb
            simp [rulesL, h10, h19, h20, h30, a1, a2, addsE, addB_false, hb]
end Go.Proofs.Yticbjhicjegfoaa.Q
