/- What a proof further on needs (part n). -/
import Derived.Test.YticbjhicjegfoaaKm
set_option linter.unusedVariables false
namespace Go.Proofs.Yticbjhicjegfoaa.Q
open Go.RowKit
open Go.Proofs.YticbjhicjegfoaaW.PrintWords
section
variable {G : EG} {m : Nat}
set_option maxHeartbeats 6400000 in
set_option maxRecDepth 100000 in
theorem lookE_c (ih : LookOkE G m) : LookOkE G (m + 1) := by
  intro a k bad bad' hr w okb oks bv v h ha ho
  unfold lookE at hr
  obtain ⟨n, hn, hr⟩ := Option.bind_eq_some_iff.1 hr
  obtain ⟨r, hr1, hr⟩ := Option.bind_eq_some_iff.1 hr
  obtain ⟨bad2, hb2, hr⟩ := Option.bind_eq_some_iff.1 hr
  obtain ⟨q0, q1, hq0, hq1, hadd⟩ := ruleF_qs hr1 hb2
  obtain ⟨Av, cv, rfl, _⟩ := id ha
  have hb1 : Below w.heap.size w (w.alloc (.cells #[.bool a.loop, .bool a.fun_, .bool a.gen, .slice Av a.scopes.length cv] 83)) := (Below.refl _ _).alloc (Nat.le_refl _) _
  have h1 := h.below hb1
  obtain ⟨A3, c3, A4, c4, hlt, n0, n1, n2, n3, n4, n5, l3, f3, l4, f4⟩ := h1.nodes.node hn
  have hkl : (k : Int) < (G.l.length : Int) := by omega
  have g0 := h1.c0
  have hb : Below w.heap.size w ((w.alloc (.cells #[.bool a.loop, .bool a.fun_, .bool a.gen, .slice Av a.scopes.length cv] 83)).alloc (.cells #[.int .i64 n.kind, .int .i64 n.num, .string n.text, .slice A3 n.names.length c3, .slice A4 n.kids.length c4, .int .i64 n.at_] 38)) := ((Below.refl _ _).alloc (Nat.le_refl _) _).alloc (by simp) _
  have r4 : ((w.alloc (.cells #[.bool a.loop, .bool a.fun_, .bool a.gen, .slice Av a.scopes.length cv] 83)).alloc (.cells #[.int .i64 n.kind, .int .i64 n.num, .string n.text, .slice A3 n.names.length c3, .slice A4 n.kids.length c4, .int .i64 n.at_] 38)).heap[w.heap.size]? = some (.cells #[.bool a.loop, .bool a.fun_, .bool a.gen, .slice Av a.scopes.length cv] 83 (0, 0)) := by
    rw [heap_alloc_old _ _ (by simp)]; exact heap_alloc_new _ _
  have r6 : ((w.alloc (.cells #[.bool a.loop, .bool a.fun_, .bool a.gen, .slice Av a.scopes.length cv] 83)).alloc (.cells #[.int .i64 n.kind, .int .i64 n.num, .string n.text, .slice A3 n.names.length c3, .slice A4 n.kids.length c4, .int .i64 n.at_] 38)).heap[w.heap.size + 1]? = some (.cells #[.int .i64 n.kind, .int .i64 n.num, .string n.text, .slice A3 n.names.length c3, .slice A4 n.kids.length c4, .int .i64 n.at_] 38 (0, 0)) := by
    have := heap_alloc_new (w.alloc (.cells #[.bool a.loop, .bool a.fun_, .bool a.gen, .slice Av a.scopes.length cv] 83)) (.cells #[.int .i64 n.kind, .int .i64 n.num, .string n.text, .slice A3 n.names.length c3, .slice A4 n.kids.length c4, .int .i64 n.at_] 38)
    rwa [show (w.alloc (.cells #[.bool a.loop, .bool a.fun_, .bool a.gen, .slice Av a.scopes.length cv] 83)).heap.size = w.heap.size + 1 by simp] at this
  have H := hid h
  have HA := hid ha
  have HO := hid ho
  have HB := hid hb
  have R4 := hid r4
  have R6 := hid r6
  have F3 := hid (Kd.F_below f3 ((Below.refl _ _).alloc (Nat.le_refl _) (.cells #[.int .i64 n.kind, .int .i64 n.num, .string n.text, .slice A3 n.names.length c3, .slice A4 n.kids.length c4, .int .i64 n.at_] 38)))
  have F4 := hid (Kd.F_below f4 ((Below.refl _ _).alloc (Nat.le_refl _) (.cells #[.int .i64 n.kind, .int .i64 n.num, .string n.text, .slice A3 n.names.length c3, .slice A4 n.kids.length c4, .int .i64 n.at_] 38)))
  have HQ0 := hid hq0
  have HQ1 := hid hq1
  have HADD := hid hadd
  have HR := hid hr
  have IH := hid @ih
  have HNN := hid hn
  clear h1 hb1 h ha ho hb r4 r6 f3 f4 hq0 hq1 hadd hr ih hr1 hb2 hn
  unfold ptr arV
  go_enter Try.func33, Try.ntmps33
  go_upto_region 2 with fail
  generalize ((w.alloc (.cells #[.bool a.loop, .bool a.fun_, .bool a.gen, .slice Av a.scopes.length cv] 83)).alloc (.cells #[.int .i64 n.kind, .int .i64 n.num, .string n.text, .slice A3 n.names.length c3, .slice A4 n.kids.length c4, .int .i64 n.at_] 38)) = W at *
  clear n0 n1 n2 n3 n4 n5 g0
  go_wp2_with fail
  refine (rules_c _).mono ?_
  rintro e w2 ⟨rfl, hrow, hbr⟩
  have HNK := hid (fun k (hk : w.heap.size ≤ k) => (fun q => q.elim (fun q => by have := H.out.lt.1; omega) (fun q => by have := (H.out.off _ q).2.2.2.2; omega) : ¬ EK G okb k))
  have hWs : w.heap.size + 1 < W.heap.size := (Array.getElem?_eq_some_iff.1 R6.out).1
  have hbw := HB.out.trans (hbr.mono HB.out.size)
  have H2 := hid (H.out.below hbw)
  have HA2 := hid (HA.out.below hbw)
  have HO2 := hid (fun k hk => (⟨(HO.out k hk).1, (HO.out k hk).2.1, Nat.lt_of_lt_of_le (HO.out k hk).2.2 hbw.size⟩ : k ≠ G.a ∧ ¬ okb k ∧ k < w2.heap.size))
  have R4b := hid ((hbr.block _ (by omega)).trans R4.out)
  have R6b := hid ((hbr.block _ hWs).trans R6.out)
  have RR := hid hrow
  have HBW := hid hbw
  have HWS := hid hWs
  have F3b := hid (Kd.F_below F3.out hbr)
  have F4b := hid (Kd.F_below F4.out hbr)
  clear hbw hrow hbr hWs F3 F4
  go_wp2_with fail
  have HS := hid H2.out.same
  go_loopw [18] (fun x wx => ∃ (j : Nat) (T : List Nat), j ≤ 5 ∧ x = .int .i64 j ∧ Box (EN G w2 okb wx T) ∧ Box (addsE ((rulesL n a q0 q1).drop j) n.at_ T = some bad2)) (fun x _ => 5 - (RowKit.intOf x).toNat)
  case atStart => exact ⟨0, bad, Nat.zero_le _, rfl, HS, HADD⟩
  case round =>
    clear HS HADD
    obtain ⟨j, T, hj, rfl, HT, HADD⟩ := hrel
    obtain ⟨o1, bv1, h1, k1, s1⟩ := id HT.out
    have r4 := k1.heap R4b.out (HNK.out _ (Nat.le_refl _))
    have r6 := k1.heap R6b.out (HNK.out _ (Nat.le_succ _))
    have rr := k1.heap RR.out (HNK.out _ (by have := HWS.out; omega))
    have H1 := hid h1
    have K1 := hid k1
    have S1 := hid s1
    have HA1 := hid (HA2.out.step (w' := wr) (k1.offE HO2.out))
    have F31 := hid (Kd.F_step F3b.out (W1 := wr) (fun j hj _ => k1.offE H2.out.offL j hj))
    have F41 := hid (Kd.F_step F4b.out (W1 := wr) (fun j hj _ => k1.offE H2.out.offL j hj))
    have a0 := (cell_of_row _ _ 0 _ _ _ r4).trans (b := some (Value.bool a.loop)) rfl
    have a1 := (cell_of_row _ _ 1 _ _ _ r4).trans (b := some (Value.bool a.fun_)) rfl
    have a2 := (cell_of_row _ _ 2 _ _ _ r4).trans (b := some (Value.bool a.gen)) rfl
    have a3 := (cell_of_row _ _ 3 _ _ _ r4).trans (b := some (Value.slice Av a.scopes.length cv)) rfl
    have m0 := (cell_of_row _ _ 0 _ _ _ r6).trans (b := some (Value.int .i64 n.kind)) rfl
    have m1 := (cell_of_row _ _ 1 _ _ _ r6).trans (b := some (Value.int .i64 n.num)) rfl
    have m2 := (cell_of_row _ _ 2 _ _ _ r6).trans (b := some (Value.string n.text)) rfl
    have m3 := (cell_of_row _ _ 3 _ _ _ r6).trans (b := some (Value.slice A3 n.names.length c3)) rfl
    have m4 := (cell_of_row _ _ 4 _ _ _ r6).trans (b := some (Value.slice A4 n.kids.length c4)) rfl
    have m5 := (cell_of_row _ _ 5 _ _ _ r6).trans (b := some (Value.int .i64 n.at_)) rfl
    have R41 := hid r4
    have R61 := hid r6
    have hj5 : j = 0 ∨ j = 1 ∨ j = 2 ∨ j = 3 ∨ j = 4 ∨ j = 5 := by omega
    clear h1 k1 s1 r4 r6 hj
    rcases hj5 with rfl | rfl | rfl | rfl | rfl | rfl
    · have hd : addsE ((decide (n.kind = 10) && q0) :: [decide (n.kind = 19) && q1, (decide (n.kind = 28) || decide (n.kind = 29)) && !a.loop, decide (n.kind = 20) && !a.gen, decide (n.kind = 30) && !a.fun_]) n.at_ T = some bad2 := HADD.out
      unfold addsE at hd
      obtain ⟨T2, ht, hd⟩ := Option.bind_eq_some_iff.1 hd
      have HT2 := hid ht
      have HD2 := hid hd
      have x0 := (cell_of_row _ _ 0 _ _ _ rr).trans (b := some (ruleV 72)) rfl
      unfold ruleV at x0
      clear ht hd rr HADD
      have bd : Below wr.heap.size wr wr.drew := below_drew (Below.refl _ _)
      have H1d := H1.out.below bd
      have HA1d := HA1.out.below bd
      have F31d := Kd.F_below F31.out bd
      have F41d := Kd.F_below F41.out bd
      have hrc := rule0_c (n := n) (A3 := A3) (c3 := c3) (A4 := A4) (c4 := c4) H1d HA1d HQ0.out F31d
      unfold ptr arV at hrc
      have HRC := hid hrc
      clear bd H1d HA1d F31d F41d hrc
      have lt6 : w.heap.size + 1 < wr.heap.size := (Array.getElem?_eq_some_iff.1 R61.out).1
      have lt4 : w.heap.size < wr.heap.size := by omega
      have l6 := (Array.getElem?_eq_some_iff.1 R6b.out).1
      have LT2 := hid (And.intro (Nat.lt_of_succ_lt l6) l6 : w.heap.size < w2.heap.size ∧ w.heap.size + 1 < w2.heap.size)
      have NO1 := hid (fun b (hb1 : w.heap.size ≤ b) (hb2 : b < w2.heap.size) => (fun q => (S1.out b q).elim (fun q => by have := (H.out.off _ q).2.2.2.2; omega) (fun q => by omega) : ¬ o1 b))
      clear l6
      go_upto_region 5 with fail
      go_region_held3 (fun w' => w'.cell? ⟨w.heap.size, 0, none⟩ = some (Value.bool a.loop) ∧ w'.cell? ⟨w.heap.size, 1, none⟩ = some (Value.bool a.fun_) ∧ w'.cell? ⟨w.heap.size, 2, none⟩ = some (Value.bool a.gen) ∧ w'.cell? ⟨w.heap.size, 3, none⟩ = some (Value.slice Av a.scopes.length cv) ∧ w'.cell? ⟨w.heap.size + 1, 0, none⟩ = some (Value.int .i64 n.kind) ∧ w'.cell? ⟨w.heap.size + 1, 1, none⟩ = some (Value.int .i64 n.num) ∧ w'.cell? ⟨w.heap.size + 1, 2, none⟩ = some (Value.string n.text) ∧ w'.cell? ⟨w.heap.size + 1, 3, none⟩ = some (Value.slice A3 n.names.length c3) ∧ w'.cell? ⟨w.heap.size + 1, 4, none⟩ = some (Value.slice A4 n.kids.length c4) ∧ w'.cell? ⟨w.heap.size + 1, 5, none⟩ = some (Value.int .i64 n.at_)) (first | exact ⟨a0, a1, a2, a3, m0, m1, m2, m3, m4, m5⟩ | exact ⟨a0', a1', a2', a3', m0', m1', m2', m3', m4', m5'⟩ | exact ⟨a0'', a1'', a2'', a3'', m0'', m1'', m2'', m3'', m4'', m5''⟩)
        (first
          | (go_at_call 72; refine HRC.out.mono ?_; rintro e w3 ⟨rfl, hb3⟩; have a0' := (hb3.cell (p := ⟨w.heap.size, 0, none⟩) lt4).trans a0; have a1' := (hb3.cell (p := ⟨w.heap.size, 1, none⟩) lt4).trans a1; have a2' := (hb3.cell (p := ⟨w.heap.size, 2, none⟩) lt4).trans a2; have a3' := (hb3.cell (p := ⟨w.heap.size, 3, none⟩) lt4).trans a3; have m0' := (hb3.cell (p := ⟨w.heap.size + 1, 0, none⟩) lt6).trans m0; have m1' := (hb3.cell (p := ⟨w.heap.size + 1, 1, none⟩) lt6).trans m1; have m2' := (hb3.cell (p := ⟨w.heap.size + 1, 2, none⟩) lt6).trans m2; have m3' := (hb3.cell (p := ⟨w.heap.size + 1, 3, none⟩) lt6).trans m3; have m4' := (hb3.cell (p := ⟨w.heap.size + 1, 4, none⟩) lt6).trans m4; have m5' := (hb3.cell (p := ⟨w.heap.size + 1, 5, none⟩) lt6).trans m5; have hw := wrong_c ((H1.out.below (below_drew (Below.refl _ _))).below hb3) HT2.out; unfold ptr at hw; have HW := hid hw; have HB3 := hid (show Below wr.heap.size wr w3 from (below_drew (Below.refl _ _)).trans hb3); clear hw hb3)
          | (go_at_call 54; refine HW.out.mono ?_; rintro e w4 ⟨rfl, o4, v4, h4, k4, s4⟩; have nk : ∀ b, w.heap.size ≤ b → b < w2.heap.size → ¬ EK G o1 b := (fun b hb1 hb2 q => q.elim (fun q => by have := H.out.lt.1; omega) (fun q => NO1.out b hb1 hb2 q)); have hq4 := k4.block w.heap.size (Nat.lt_of_lt_of_le lt4 HB3.out.size) (nk _ (Nat.le_refl _) LT2.out.1); have hq6 := k4.block (w.heap.size + 1) (Nat.lt_of_lt_of_le lt6 HB3.out.size) (nk _ (Nat.le_succ _) LT2.out.2); have a0'' := (World.cell?_of_block (w := w3) (a := ⟨w.heap.size, 0, none⟩) hq4).trans a0'; have a1'' := (World.cell?_of_block (w := w3) (a := ⟨w.heap.size, 1, none⟩) hq4).trans a1'; have a2'' := (World.cell?_of_block (w := w3) (a := ⟨w.heap.size, 2, none⟩) hq4).trans a2'; have a3'' := (World.cell?_of_block (w := w3) (a := ⟨w.heap.size, 3, none⟩) hq4).trans a3'; have m0'' := (World.cell?_of_block (w := w3) (a := ⟨w.heap.size + 1, 0, none⟩) hq6).trans m0'; have m1'' := (World.cell?_of_block (w := w3) (a := ⟨w.heap.size + 1, 1, none⟩) hq6).trans m1'; have m2'' := (World.cell?_of_block (w := w3) (a := ⟨w.heap.size + 1, 2, none⟩) hq6).trans m2'; have m3'' := (World.cell?_of_block (w := w3) (a := ⟨w.heap.size + 1, 3, none⟩) hq6).trans m3'; have m4'' := (World.cell?_of_block (w := w3) (a := ⟨w.heap.size + 1, 4, none⟩) hq6).trans m4'; have m5'' := (World.cell?_of_block (w := w3) (a := ⟨w.heap.size + 1, 5, none⟩) hq6).trans m5'; have HN := hid (EN.of K1.out S1.out (EN.pre HB3.out (⟨o4, v4, h4, k4, s4⟩ : EN G w3 o1 w4 T2))); clear hq4 hq6 nk h4 k4 s4))
      go_wp2_with fail
      go_roundw
      case rel => exact ⟨1, T2, by omega, by go_num, HN, HD2⟩
      case measure => simp [RowKit.intOf]
    · have hd : addsE ((decide (n.kind = 19) && q1) :: [(decide (n.kind = 28) || decide (n.kind = 29)) && !a.loop, decide (n.kind = 20) && !a.gen, decide (n.kind = 30) && !a.fun_]) n.at_ T = some bad2 := HADD.out
      unfold addsE at hd
      obtain ⟨T2, ht, hd⟩ := Option.bind_eq_some_iff.1 hd
      have HT2 := hid ht
      have HD2 := hid hd
      have x0 := (cell_of_row _ _ 1 _ _ _ rr).trans (b := some (ruleV 74)) rfl
      unfold ruleV at x0
      clear ht hd rr HADD
      have bd : Below wr.heap.size wr wr.drew := below_drew (Below.refl _ _)
      have H1d := H1.out.below bd
      have HA1d := HA1.out.below bd
      have F31d := Kd.F_below F31.out bd
      have F41d := Kd.F_below F41.out bd
      have hrc := rule1_c (n := n) (A3 := A3) (c3 := c3) (A4 := A4) (c4 := c4) H1d HA1d HQ1.out F41d
      unfold ptr arV at hrc
      have HRC := hid hrc
      clear bd H1d HA1d F31d F41d hrc
      have lt6 : w.heap.size + 1 < wr.heap.size := (Array.getElem?_eq_some_iff.1 R61.out).1
      have lt4 : w.heap.size < wr.heap.size := by omega
      have l6 := (Array.getElem?_eq_some_iff.1 R6b.out).1
      have LT2 := hid (And.intro (Nat.lt_of_succ_lt l6) l6 : w.heap.size < w2.heap.size ∧ w.heap.size + 1 < w2.heap.size)
      have NO1 := hid (fun b (hb1 : w.heap.size ≤ b) (hb2 : b < w2.heap.size) => (fun q => (S1.out b q).elim (fun q => by have := (H.out.off _ q).2.2.2.2; omega) (fun q => by omega) : ¬ o1 b))
      clear l6
      go_upto_region 5 with fail
      go_region_held3 (fun w' => w'.cell? ⟨w.heap.size, 0, none⟩ = some (Value.bool a.loop) ∧ w'.cell? ⟨w.heap.size, 1, none⟩ = some (Value.bool a.fun_) ∧ w'.cell? ⟨w.heap.size, 2, none⟩ = some (Value.bool a.gen) ∧ w'.cell? ⟨w.heap.size, 3, none⟩ = some (Value.slice Av a.scopes.length cv) ∧ w'.cell? ⟨w.heap.size + 1, 0, none⟩ = some (Value.int .i64 n.kind) ∧ w'.cell? ⟨w.heap.size + 1, 1, none⟩ = some (Value.int .i64 n.num) ∧ w'.cell? ⟨w.heap.size + 1, 2, none⟩ = some (Value.string n.text) ∧ w'.cell? ⟨w.heap.size + 1, 3, none⟩ = some (Value.slice A3 n.names.length c3) ∧ w'.cell? ⟨w.heap.size + 1, 4, none⟩ = some (Value.slice A4 n.kids.length c4) ∧ w'.cell? ⟨w.heap.size + 1, 5, none⟩ = some (Value.int .i64 n.at_)) (first | exact ⟨a0, a1, a2, a3, m0, m1, m2, m3, m4, m5⟩ | exact ⟨a0', a1', a2', a3', m0', m1', m2', m3', m4', m5'⟩ | exact ⟨a0'', a1'', a2'', a3'', m0'', m1'', m2'', m3'', m4'', m5''⟩)
        (first
          | (go_at_call 74; refine HRC.out.mono ?_; rintro e w3 ⟨rfl, hb3⟩; have a0' := (hb3.cell (p := ⟨w.heap.size, 0, none⟩) lt4).trans a0; have a1' := (hb3.cell (p := ⟨w.heap.size, 1, none⟩) lt4).trans a1; have a2' := (hb3.cell (p := ⟨w.heap.size, 2, none⟩) lt4).trans a2; have a3' := (hb3.cell (p := ⟨w.heap.size, 3, none⟩) lt4).trans a3; have m0' := (hb3.cell (p := ⟨w.heap.size + 1, 0, none⟩) lt6).trans m0; have m1' := (hb3.cell (p := ⟨w.heap.size + 1, 1, none⟩) lt6).trans m1; have m2' := (hb3.cell (p := ⟨w.heap.size + 1, 2, none⟩) lt6).trans m2; have m3' := (hb3.cell (p := ⟨w.heap.size + 1, 3, none⟩) lt6).trans m3; have m4' := (hb3.cell (p := ⟨w.heap.size + 1, 4, none⟩) lt6).trans m4; have m5' := (hb3.cell (p := ⟨w.heap.size + 1, 5, none⟩) lt6).trans m5; have hw := wrong_c ((H1.out.below (below_drew (Below.refl _ _))).below hb3) HT2.out; unfold ptr at hw; have HW := hid hw; have HB3 := hid (show Below wr.heap.size wr w3 from (below_drew (Below.refl _ _)).trans hb3); clear hw hb3)
          | (go_at_call 54; refine HW.out.mono ?_; rintro e w4 ⟨rfl, o4, v4, h4, k4, s4⟩; have nk : ∀ b, w.heap.size ≤ b → b < w2.heap.size → ¬ EK G o1 b := (fun b hb1 hb2 q => q.elim (fun q => by have := H.out.lt.1; omega) (fun q => NO1.out b hb1 hb2 q)); have hq4 := k4.block w.heap.size (Nat.lt_of_lt_of_le lt4 HB3.out.size) (nk _ (Nat.le_refl _) LT2.out.1); have hq6 := k4.block (w.heap.size + 1) (Nat.lt_of_lt_of_le lt6 HB3.out.size) (nk _ (Nat.le_succ _) LT2.out.2); have a0'' := (World.cell?_of_block (w := w3) (a := ⟨w.heap.size, 0, none⟩) hq4).trans a0'; have a1'' := (World.cell?_of_block (w := w3) (a := ⟨w.heap.size, 1, none⟩) hq4).trans a1'; have a2'' := (World.cell?_of_block (w := w3) (a := ⟨w.heap.size, 2, none⟩) hq4).trans a2'; have a3'' := (World.cell?_of_block (w := w3) (a := ⟨w.heap.size, 3, none⟩) hq4).trans a3'; have m0'' := (World.cell?_of_block (w := w3) (a := ⟨w.heap.size + 1, 0, none⟩) hq6).trans m0'; have m1'' := (World.cell?_of_block (w := w3) (a := ⟨w.heap.size + 1, 1, none⟩) hq6).trans m1'; have m2'' := (World.cell?_of_block (w := w3) (a := ⟨w.heap.size + 1, 2, none⟩) hq6).trans m2'; have m3'' := (World.cell?_of_block (w := w3) (a := ⟨w.heap.size + 1, 3, none⟩) hq6).trans m3'; have m4'' := (World.cell?_of_block (w := w3) (a := ⟨w.heap.size + 1, 4, none⟩) hq6).trans m4'; have m5'' := (World.cell?_of_block (w := w3) (a := ⟨w.heap.size + 1, 5, none⟩) hq6).trans m5'; have HN := hid (EN.of K1.out S1.out (EN.pre HB3.out (⟨o4, v4, h4, k4, s4⟩ : EN G w3 o1 w4 T2))); clear hq4 hq6 nk h4 k4 s4))
      go_wp2_with fail
      go_roundw
      case rel => exact ⟨2, T2, by omega, by go_num, HN, HD2⟩
      case measure => simp [RowKit.intOf]
    · have hd : addsE (((decide (n.kind = 28) || decide (n.kind = 29)) && !a.loop) :: [decide (n.kind = 20) && !a.gen, decide (n.kind = 30) && !a.fun_]) n.at_ T = some bad2 := HADD.out
      unfold addsE at hd
      obtain ⟨T2, ht, hd⟩ := Option.bind_eq_some_iff.1 hd
      have HT2 := hid ht
      have HD2 := hid hd
      have x0 := (cell_of_row _ _ 2 _ _ _ rr).trans (b := some (ruleV 76)) rfl
      unfold ruleV at x0
      clear ht hd rr HADD
      have bd : Below wr.heap.size wr wr.drew := below_drew (Below.refl _ _)
      have H1d := H1.out.below bd
      have HA1d := HA1.out.below bd
      have F31d := Kd.F_below F31.out bd
      have F41d := Kd.F_below F41.out bd
      have hrc := rule2_c (n := n) (A3 := A3) (c3 := c3) (A4 := A4) (c4 := c4) H1d HA1d
      unfold ptr arV at hrc
      have HRC := hid hrc
      clear bd H1d HA1d F31d F41d hrc
      have lt6 : w.heap.size + 1 < wr.heap.size := (Array.getElem?_eq_some_iff.1 R61.out).1
      have lt4 : w.heap.size < wr.heap.size := by omega
      have l6 := (Array.getElem?_eq_some_iff.1 R6b.out).1
      have LT2 := hid (And.intro (Nat.lt_of_succ_lt l6) l6 : w.heap.size < w2.heap.size ∧ w.heap.size + 1 < w2.heap.size)
      have NO1 := hid (fun b (hb1 : w.heap.size ≤ b) (hb2 : b < w2.heap.size) => (fun q => (S1.out b q).elim (fun q => by have := (H.out.off _ q).2.2.2.2; omega) (fun q => by omega) : ¬ o1 b))
      clear l6
      go_upto_region 5 with fail
      go_region_held3 (fun w' => w'.cell? ⟨w.heap.size, 0, none⟩ = some (Value.bool a.loop) ∧ w'.cell? ⟨w.heap.size, 1, none⟩ = some (Value.bool a.fun_) ∧ w'.cell? ⟨w.heap.size, 2, none⟩ = some (Value.bool a.gen) ∧ w'.cell? ⟨w.heap.size, 3, none⟩ = some (Value.slice Av a.scopes.length cv) ∧ w'.cell? ⟨w.heap.size + 1, 0, none⟩ = some (Value.int .i64 n.kind) ∧ w'.cell? ⟨w.heap.size + 1, 1, none⟩ = some (Value.int .i64 n.num) ∧ w'.cell? ⟨w.heap.size + 1, 2, none⟩ = some (Value.string n.text) ∧ w'.cell? ⟨w.heap.size + 1, 3, none⟩ = some (Value.slice A3 n.names.length c3) ∧ w'.cell? ⟨w.heap.size + 1, 4, none⟩ = some (Value.slice A4 n.kids.length c4) ∧ w'.cell? ⟨w.heap.size + 1, 5, none⟩ = some (Value.int .i64 n.at_)) (first | exact ⟨a0, a1, a2, a3, m0, m1, m2, m3, m4, m5⟩ | exact ⟨a0', a1', a2', a3', m0', m1', m2', m3', m4', m5'⟩ | exact ⟨a0'', a1'', a2'', a3'', m0'', m1'', m2'', m3'', m4'', m5''⟩)
        (first
          | (go_at_call 76; refine HRC.out.mono ?_; rintro e w3 ⟨rfl, hb3⟩; have a0' := (hb3.cell (p := ⟨w.heap.size, 0, none⟩) lt4).trans a0; have a1' := (hb3.cell (p := ⟨w.heap.size, 1, none⟩) lt4).trans a1; have a2' := (hb3.cell (p := ⟨w.heap.size, 2, none⟩) lt4).trans a2; have a3' := (hb3.cell (p := ⟨w.heap.size, 3, none⟩) lt4).trans a3; have m0' := (hb3.cell (p := ⟨w.heap.size + 1, 0, none⟩) lt6).trans m0; have m1' := (hb3.cell (p := ⟨w.heap.size + 1, 1, none⟩) lt6).trans m1; have m2' := (hb3.cell (p := ⟨w.heap.size + 1, 2, none⟩) lt6).trans m2; have m3' := (hb3.cell (p := ⟨w.heap.size + 1, 3, none⟩) lt6).trans m3; have m4' := (hb3.cell (p := ⟨w.heap.size + 1, 4, none⟩) lt6).trans m4; have m5' := (hb3.cell (p := ⟨w.heap.size + 1, 5, none⟩) lt6).trans m5; have hw := wrong_c ((H1.out.below (below_drew (Below.refl _ _))).below hb3) HT2.out; unfold ptr at hw; have HW := hid hw; have HB3 := hid (show Below wr.heap.size wr w3 from (below_drew (Below.refl _ _)).trans hb3); clear hw hb3)
          | (go_at_call 54; refine HW.out.mono ?_; rintro e w4 ⟨rfl, o4, v4, h4, k4, s4⟩; have nk : ∀ b, w.heap.size ≤ b → b < w2.heap.size → ¬ EK G o1 b := (fun b hb1 hb2 q => q.elim (fun q => by have := H.out.lt.1; omega) (fun q => NO1.out b hb1 hb2 q)); have hq4 := k4.block w.heap.size (Nat.lt_of_lt_of_le lt4 HB3.out.size) (nk _ (Nat.le_refl _) LT2.out.1); have hq6 := k4.block (w.heap.size + 1) (Nat.lt_of_lt_of_le lt6 HB3.out.size) (nk _ (Nat.le_succ _) LT2.out.2); have a0'' := (World.cell?_of_block (w := w3) (a := ⟨w.heap.size, 0, none⟩) hq4).trans a0'; have a1'' := (World.cell?_of_block (w := w3) (a := ⟨w.heap.size, 1, none⟩) hq4).trans a1'; have a2'' := (World.cell?_of_block (w := w3) (a := ⟨w.heap.size, 2, none⟩) hq4).trans a2'; have a3'' := (World.cell?_of_block (w := w3) (a := ⟨w.heap.size, 3, none⟩) hq4).trans a3'; have m0'' := (World.cell?_of_block (w := w3) (a := ⟨w.heap.size + 1, 0, none⟩) hq6).trans m0'; have m1'' := (World.cell?_of_block (w := w3) (a := ⟨w.heap.size + 1, 1, none⟩) hq6).trans m1'; have m2'' := (World.cell?_of_block (w := w3) (a := ⟨w.heap.size + 1, 2, none⟩) hq6).trans m2'; have m3'' := (World.cell?_of_block (w := w3) (a := ⟨w.heap.size + 1, 3, none⟩) hq6).trans m3'; have m4'' := (World.cell?_of_block (w := w3) (a := ⟨w.heap.size + 1, 4, none⟩) hq6).trans m4'; have m5'' := (World.cell?_of_block (w := w3) (a := ⟨w.heap.size + 1, 5, none⟩) hq6).trans m5'; have HN := hid (EN.of K1.out S1.out (EN.pre HB3.out (⟨o4, v4, h4, k4, s4⟩ : EN G w3 o1 w4 T2))); clear hq4 hq6 nk h4 k4 s4))
      go_wp2_with fail
      go_roundw
      case rel => exact ⟨3, T2, by omega, by go_num, HN, HD2⟩
      case measure => simp [RowKit.intOf]
    · have hd : addsE ((decide (n.kind = 20) && !a.gen) :: [decide (n.kind = 30) && !a.fun_]) n.at_ T = some bad2 := HADD.out
      unfold addsE at hd
      obtain ⟨T2, ht, hd⟩ := Option.bind_eq_some_iff.1 hd
      have HT2 := hid ht
      have HD2 := hid hd
      have x0 := (cell_of_row _ _ 3 _ _ _ rr).trans (b := some (ruleV 77)) rfl
      unfold ruleV at x0
      clear ht hd rr HADD
      have bd : Below wr.heap.size wr wr.drew := below_drew (Below.refl _ _)
      have H1d := H1.out.below bd
      have HA1d := HA1.out.below bd
      have F31d := Kd.F_below F31.out bd
      have F41d := Kd.F_below F41.out bd
      have hrc := rule3_c (n := n) (A3 := A3) (c3 := c3) (A4 := A4) (c4 := c4) H1d HA1d
      unfold ptr arV at hrc
      have HRC := hid hrc
      clear bd H1d HA1d F31d F41d hrc
      have lt6 : w.heap.size + 1 < wr.heap.size := (Array.getElem?_eq_some_iff.1 R61.out).1
      have lt4 : w.heap.size < wr.heap.size := by omega
      have l6 := (Array.getElem?_eq_some_iff.1 R6b.out).1
      have LT2 := hid (And.intro (Nat.lt_of_succ_lt l6) l6 : w.heap.size < w2.heap.size ∧ w.heap.size + 1 < w2.heap.size)
      have NO1 := hid (fun b (hb1 : w.heap.size ≤ b) (hb2 : b < w2.heap.size) => (fun q => (S1.out b q).elim (fun q => by have := (H.out.off _ q).2.2.2.2; omega) (fun q => by omega) : ¬ o1 b))
      clear l6
      go_upto_region 5 with fail
      go_region_held3 (fun w' => w'.cell? ⟨w.heap.size, 0, none⟩ = some (Value.bool a.loop) ∧ w'.cell? ⟨w.heap.size, 1, none⟩ = some (Value.bool a.fun_) ∧ w'.cell? ⟨w.heap.size, 2, none⟩ = some (Value.bool a.gen) ∧ w'.cell? ⟨w.heap.size, 3, none⟩ = some (Value.slice Av a.scopes.length cv) ∧ w'.cell? ⟨w.heap.size + 1, 0, none⟩ = some (Value.int .i64 n.kind) ∧ w'.cell? ⟨w.heap.size + 1, 1, none⟩ = some (Value.int .i64 n.num) ∧ w'.cell? ⟨w.heap.size + 1, 2, none⟩ = some (Value.string n.text) ∧ w'.cell? ⟨w.heap.size + 1, 3, none⟩ = some (Value.slice A3 n.names.length c3) ∧ w'.cell? ⟨w.heap.size + 1, 4, none⟩ = some (Value.slice A4 n.kids.length c4) ∧ w'.cell? ⟨w.heap.size + 1, 5, none⟩ = some (Value.int .i64 n.at_)) (first | exact ⟨a0, a1, a2, a3, m0, m1, m2, m3, m4, m5⟩ | exact ⟨a0', a1', a2', a3', m0', m1', m2', m3', m4', m5'⟩ | exact ⟨a0'', a1'', a2'', a3'', m0'', m1'', m2'', m3'', m4'', m5''⟩)
        (first
          | (go_at_call 77; refine HRC.out.mono ?_; rintro e w3 ⟨rfl, hb3⟩; have a0' := (hb3.cell (p := ⟨w.heap.size, 0, none⟩) lt4).trans a0; have a1' := (hb3.cell (p := ⟨w.heap.size, 1, none⟩) lt4).trans a1; have a2' := (hb3.cell (p := ⟨w.heap.size, 2, none⟩) lt4).trans a2; have a3' := (hb3.cell (p := ⟨w.heap.size, 3, none⟩) lt4).trans a3; have m0' := (hb3.cell (p := ⟨w.heap.size + 1, 0, none⟩) lt6).trans m0; have m1' := (hb3.cell (p := ⟨w.heap.size + 1, 1, none⟩) lt6).trans m1; have m2' := (hb3.cell (p := ⟨w.heap.size + 1, 2, none⟩) lt6).trans m2; have m3' := (hb3.cell (p := ⟨w.heap.size + 1, 3, none⟩) lt6).trans m3; have m4' := (hb3.cell (p := ⟨w.heap.size + 1, 4, none⟩) lt6).trans m4; have m5' := (hb3.cell (p := ⟨w.heap.size + 1, 5, none⟩) lt6).trans m5; have hw := wrong_c ((H1.out.below (below_drew (Below.refl _ _))).below hb3) HT2.out; unfold ptr at hw; have HW := hid hw; have HB3 := hid (show Below wr.heap.size wr w3 from (below_drew (Below.refl _ _)).trans hb3); clear hw hb3)
          | (go_at_call 54; refine HW.out.mono ?_; rintro e w4 ⟨rfl, o4, v4, h4, k4, s4⟩; have nk : ∀ b, w.heap.size ≤ b → b < w2.heap.size → ¬ EK G o1 b := (fun b hb1 hb2 q => q.elim (fun q => by have := H.out.lt.1; omega) (fun q => NO1.out b hb1 hb2 q)); have hq4 := k4.block w.heap.size (Nat.lt_of_lt_of_le lt4 HB3.out.size) (nk _ (Nat.le_refl _) LT2.out.1); have hq6 := k4.block (w.heap.size + 1) (Nat.lt_of_lt_of_le lt6 HB3.out.size) (nk _ (Nat.le_succ _) LT2.out.2); have a0'' := (World.cell?_of_block (w := w3) (a := ⟨w.heap.size, 0, none⟩) hq4).trans a0'; have a1'' := (World.cell?_of_block (w := w3) (a := ⟨w.heap.size, 1, none⟩) hq4).trans a1'; have a2'' := (World.cell?_of_block (w := w3) (a := ⟨w.heap.size, 2, none⟩) hq4).trans a2'; have a3'' := (World.cell?_of_block (w := w3) (a := ⟨w.heap.size, 3, none⟩) hq4).trans a3'; have m0'' := (World.cell?_of_block (w := w3) (a := ⟨w.heap.size + 1, 0, none⟩) hq6).trans m0'; have m1'' := (World.cell?_of_block (w := w3) (a := ⟨w.heap.size + 1, 1, none⟩) hq6).trans m1'; have m2'' := (World.cell?_of_block (w := w3) (a := ⟨w.heap.size + 1, 2, none⟩) hq6).trans m2'; have m3'' := (World.cell?_of_block (w := w3) (a := ⟨w.heap.size + 1, 3, none⟩) hq6).trans m3'; have m4'' := (World.cell?_of_block (w := w3) (a := ⟨w.heap.size + 1, 4, none⟩) hq6).trans m4'; have m5'' := (World.cell?_of_block (w := w3) (a := ⟨w.heap.size + 1, 5, none⟩) hq6).trans m5'; have HN := hid (EN.of K1.out S1.out (EN.pre HB3.out (⟨o4, v4, h4, k4, s4⟩ : EN G w3 o1 w4 T2))); clear hq4 hq6 nk h4 k4 s4))
      go_wp2_with fail
      go_roundw
      case rel => exact ⟨4, T2, by omega, by go_num, HN, HD2⟩
      case measure => simp [RowKit.intOf]
    · have hd : addsE ((decide (n.kind = 30) && !a.fun_) :: []) n.at_ T = some bad2 := HADD.out
      unfold addsE at hd
      obtain ⟨T2, ht, hd⟩ := Option.bind_eq_some_iff.1 hd
      have HT2 := hid ht
      have HD2 := hid hd
      have x0 := (cell_of_row _ _ 4 _ _ _ rr).trans (b := some (ruleV 78)) rfl
      unfold ruleV at x0
      clear ht hd rr HADD
      have bd : Below wr.heap.size wr wr.drew := below_drew (Below.refl _ _)
      have H1d := H1.out.below bd
      have HA1d := HA1.out.below bd
      have F31d := Kd.F_below F31.out bd
      have F41d := Kd.F_below F41.out bd
      have hrc := rule4_c (n := n) (A3 := A3) (c3 := c3) (A4 := A4) (c4 := c4) H1d HA1d
      unfold ptr arV at hrc
      have HRC := hid hrc
      clear bd H1d HA1d F31d F41d hrc
      have lt6 : w.heap.size + 1 < wr.heap.size := (Array.getElem?_eq_some_iff.1 R61.out).1
      have lt4 : w.heap.size < wr.heap.size := by omega
      have l6 := (Array.getElem?_eq_some_iff.1 R6b.out).1
      have LT2 := hid (And.intro (Nat.lt_of_succ_lt l6) l6 : w.heap.size < w2.heap.size ∧ w.heap.size + 1 < w2.heap.size)
      have NO1 := hid (fun b (hb1 : w.heap.size ≤ b) (hb2 : b < w2.heap.size) => (fun q => (S1.out b q).elim (fun q => by have := (H.out.off _ q).2.2.2.2; omega) (fun q => by omega) : ¬ o1 b))
      clear l6
      go_upto_region 5 with fail
      go_region_held3 (fun w' => w'.cell? ⟨w.heap.size, 0, none⟩ = some (Value.bool a.loop) ∧ w'.cell? ⟨w.heap.size, 1, none⟩ = some (Value.bool a.fun_) ∧ w'.cell? ⟨w.heap.size, 2, none⟩ = some (Value.bool a.gen) ∧ w'.cell? ⟨w.heap.size, 3, none⟩ = some (Value.slice Av a.scopes.length cv) ∧ w'.cell? ⟨w.heap.size + 1, 0, none⟩ = some (Value.int .i64 n.kind) ∧ w'.cell? ⟨w.heap.size + 1, 1, none⟩ = some (Value.int .i64 n.num) ∧ w'.cell? ⟨w.heap.size + 1, 2, none⟩ = some (Value.string n.text) ∧ w'.cell? ⟨w.heap.size + 1, 3, none⟩ = some (Value.slice A3 n.names.length c3) ∧ w'.cell? ⟨w.heap.size + 1, 4, none⟩ = some (Value.slice A4 n.kids.length c4) ∧ w'.cell? ⟨w.heap.size + 1, 5, none⟩ = some (Value.int .i64 n.at_)) (first | exact ⟨a0, a1, a2, a3, m0, m1, m2, m3, m4, m5⟩ | exact ⟨a0', a1', a2', a3', m0', m1', m2', m3', m4', m5'⟩ | exact ⟨a0'', a1'', a2'', a3'', m0'', m1'', m2'', m3'', m4'', m5''⟩)
        (first
          | (go_at_call 78; refine HRC.out.mono ?_; rintro e w3 ⟨rfl, hb3⟩; have a0' := (hb3.cell (p := ⟨w.heap.size, 0, none⟩) lt4).trans a0; have a1' := (hb3.cell (p := ⟨w.heap.size, 1, none⟩) lt4).trans a1; have a2' := (hb3.cell (p := ⟨w.heap.size, 2, none⟩) lt4).trans a2; have a3' := (hb3.cell (p := ⟨w.heap.size, 3, none⟩) lt4).trans a3; have m0' := (hb3.cell (p := ⟨w.heap.size + 1, 0, none⟩) lt6).trans m0; have m1' := (hb3.cell (p := ⟨w.heap.size + 1, 1, none⟩) lt6).trans m1; have m2' := (hb3.cell (p := ⟨w.heap.size + 1, 2, none⟩) lt6).trans m2; have m3' := (hb3.cell (p := ⟨w.heap.size + 1, 3, none⟩) lt6).trans m3; have m4' := (hb3.cell (p := ⟨w.heap.size + 1, 4, none⟩) lt6).trans m4; have m5' := (hb3.cell (p := ⟨w.heap.size + 1, 5, none⟩) lt6).trans m5; have hw := wrong_c ((H1.out.below (below_drew (Below.refl _ _))).below hb3) HT2.out; unfold ptr at hw; have HW := hid hw; have HB3 := hid (show Below wr.heap.size wr w3 from (below_drew (Below.refl _ _)).trans hb3); clear hw hb3)
          | (go_at_call 54; refine HW.out.mono ?_; rintro e w4 ⟨rfl, o4, v4, h4, k4, s4⟩; have nk : ∀ b, w.heap.size ≤ b → b < w2.heap.size → ¬ EK G o1 b := (fun b hb1 hb2 q => q.elim (fun q => by have := H.out.lt.1; omega) (fun q => NO1.out b hb1 hb2 q)); have hq4 := k4.block w.heap.size (Nat.lt_of_lt_of_le lt4 HB3.out.size) (nk _ (Nat.le_refl _) LT2.out.1); have hq6 := k4.block (w.heap.size + 1) (Nat.lt_of_lt_of_le lt6 HB3.out.size) (nk _ (Nat.le_succ _) LT2.out.2); have a0'' := (World.cell?_of_block (w := w3) (a := ⟨w.heap.size, 0, none⟩) hq4).trans a0'; have a1'' := (World.cell?_of_block (w := w3) (a := ⟨w.heap.size, 1, none⟩) hq4).trans a1'; have a2'' := (World.cell?_of_block (w := w3) (a := ⟨w.heap.size, 2, none⟩) hq4).trans a2'; have a3'' := (World.cell?_of_block (w := w3) (a := ⟨w.heap.size, 3, none⟩) hq4).trans a3'; have m0'' := (World.cell?_of_block (w := w3) (a := ⟨w.heap.size + 1, 0, none⟩) hq6).trans m0'; have m1'' := (World.cell?_of_block (w := w3) (a := ⟨w.heap.size + 1, 1, none⟩) hq6).trans m1'; have m2'' := (World.cell?_of_block (w := w3) (a := ⟨w.heap.size + 1, 2, none⟩) hq6).trans m2'; have m3'' := (World.cell?_of_block (w := w3) (a := ⟨w.heap.size + 1, 3, none⟩) hq6).trans m3'; have m4'' := (World.cell?_of_block (w := w3) (a := ⟨w.heap.size + 1, 4, none⟩) hq6).trans m4'; have m5'' := (World.cell?_of_block (w := w3) (a := ⟨w.heap.size + 1, 5, none⟩) hq6).trans m5'; have HN := hid (EN.of K1.out S1.out (EN.pre HB3.out (⟨o4, v4, h4, k4, s4⟩ : EN G w3 o1 w4 T2))); clear hq4 hq6 nk h4 k4 s4))
      go_wp2_with fail
      go_roundw
      case rel => exact ⟨5, T2, by omega, by go_num, HN, HD2⟩
      case measure => simp [RowKit.intOf]
    · have hT : some T = some bad2 := HADD.out
      obtain rfl := Option.some.inj hT
      clear hT
      have hr := HR.out
      unfold bodyE at hr
      have HO1 := hid (fun k hk => (⟨(HO2.out k hk).1, fun q => (S1.out k q).elim (HO2.out k hk).2.1 (fun q => by have := (HO2.out k hk).2.2; omega), Nat.lt_of_lt_of_le (HO2.out k hk).2.2 K1.out.size⟩ : k ≠ G.a ∧ ¬ o1 k ∧ k < wr.heap.size))
      clear rr
      split at hr
      · rename_i h33
        have t33 : (n.kind == (33 : Int)) = true := by simp [h33]
        clear h33
        have hc := withinE_c (c := 0) (c4 := c4) @IH.out hr H1.out HA1.out HO1.out (Kd.F_nil Kd.string wr (fun _ => False)) F41.out
        unfold ptr arV at hc
        have HC := hid hc
        clear hc hr HR
        go_wp2_with fail
        refine HC.out.mono ?_
        rintro e w5 ⟨rfl, hL⟩
        have HL := hid (EN.pre HBW.out (EN.of K1.out S1.out hL))
        clear hL
        go_wp2_with fail
        exact bodyPost_end (results_none rfl _ _ _) rfl ⟨rfl, HL.out⟩
      · rename_i h33
        split at hr
        · rename_i h10
          have t33 : (n.kind == (33 : Int)) = false := by simp [h33]
          have t10 : (n.kind == (10 : Int)) = true := by simp [h10]
          clear h33 h10
          have NE1 := hid (fun b (hb1 : w.heap.size ≤ b) (hb2 : b < w2.heap.size) => (fun q => q.elim (fun q => by have := H.out.lt.1; omega) (fun q => (S1.out b q).elim (fun q => by have := (H.out.off _ q).2.2.2.2; omega) (fun q => by omega)) : ¬ EK G o1 b))
          have l6 := (Array.getElem?_eq_some_iff.1 R6b.out).1
          have LT2 := hid (And.intro (Nat.lt_of_succ_lt l6) l6 : w.heap.size < w2.heap.size ∧ w.heap.size + 1 < w2.heap.size)
          clear l6
          have z0 : wr.frozen? ⟨w.heap.size, 0, none⟩ = false := by simp [World.frozen?, R41.out]
          have z1 : wr.frozen? ⟨w.heap.size, 1, none⟩ = false := by simp [World.frozen?, R41.out]
          have z2 : wr.frozen? ⟨w.heap.size, 2, none⟩ = false := by simp [World.frozen?, R41.out]
          go_upto_region 12 with fail
          go_region
          have kpS : Kp (fun j => j = w.heap.size) wr ((((wr.setCell ⟨w.heap.size, 0, none⟩ (.bool false)).setCell ⟨w.heap.size, 1, none⟩ (.bool true)).setCell ⟨w.heap.size, 2, none⟩ (.bool (n.num == 1))).drew) := ((((Kp.set (K := fun j => j = w.heap.size) (p := ⟨w.heap.size, 0, none⟩) _ rfl).trans (Kp.set (K := fun j => j = w.heap.size) (p := ⟨w.heap.size, 1, none⟩) _ rfl) (fun _ h => .inl h)).trans (Kp.set (K := fun j => j = w.heap.size) (p := ⟨w.heap.size, 2, none⟩) _ rfl) (fun _ h => .inl h))).below (below_drew (Below.refl _ _))
          have r3 : ((((wr.setCell ⟨w.heap.size, 0, none⟩ (.bool false)).setCell ⟨w.heap.size, 1, none⟩ (.bool true)).setCell ⟨w.heap.size, 2, none⟩ (.bool (n.num == 1))).drew).heap[w.heap.size]? = some (.cells #[.bool false, .bool true, .bool (decide (n.num = 1)), .slice Av a.scopes.length cv] 83 (0, 0)) := blk_put (blk_put (blk_put R41.out 0 (.bool false) rfl) 1 (.bool true) rfl) 2 (.bool (n.num == 1)) rfl
          have r6 := kpS.heap R61.out (Nat.succ_ne_self _)
          have hlt := H.out.lt
          have hI3 := H1.out.kp kpS ⟨fun q => by omega, fun q => by omega, fun q => by omega⟩ (fun k q1 q => by have := (H.out.offl k q1).2; omega) (fun k q1 q => NE1.out k (by omega) (by have := LT2.out; omega) (.inr q1))
          have hA3 := HA1.out.step (fun k hk => kpS.block k (HO1.out k hk).2.2 (fun q => by have := (HO.out k hk).2.2; omega))
          have f33 := Kd.F_step F31.out (fun j hj _ => kpS.block j ((H1.out.offl j hj).2) (fun q => by have := (H.out.offl j hj).2; omega))
          have f43 := Kd.F_step F41.out (fun j hj _ => kpS.block j ((H1.out.offl j hj).2) (fun q => by have := (H.out.offl j hj).2; omega))
          have hO3 : ∀ k, oks k → k ≠ G.a ∧ ¬ o1 k ∧ k < ((((wr.setCell ⟨w.heap.size, 0, none⟩ (.bool false)).setCell ⟨w.heap.size, 1, none⟩ (.bool true)).setCell ⟨w.heap.size, 2, none⟩ (.bool (n.num == 1))).drew).heap.size := fun k hk => ⟨(HO1.out k hk).1, (HO1.out k hk).2.1, Nat.lt_of_lt_of_le (HO1.out k hk).2.2 kpS.size⟩
          have KPS := hid (((Kp.of_below (K := EK G okb) HBW.out).trans K1.out (fun _ h => .inl h)).trans kpS (fun k q => .inr (by omega)))
          have S1w := hid (fun k q => (S1.out k q).imp id (fun q => Nat.le_trans HBW.out.size q) : ∀ k, o1 k → okb k ∨ w.heap.size ≤ k)
          clear kpS hlt z0 z1 z2 a0 a1 a2 a3 m0 m1 m2 m3 m4 m5
          generalize ((((wr.setCell ⟨w.heap.size, 0, none⟩ (.bool false)).setCell ⟨w.heap.size, 1, none⟩ (.bool true)).setCell ⟨w.heap.size, 2, none⟩ (.bool (n.num == 1))).drew) = W3 at *
          have a0 := (cell_of_row _ _ 0 _ _ _ r3).trans (b := some (Value.bool false)) rfl
          have a1 := (cell_of_row _ _ 1 _ _ _ r3).trans (b := some (Value.bool true)) rfl
          have a2 := (cell_of_row _ _ 2 _ _ _ r3).trans (b := some (Value.bool (decide (n.num = 1)))) rfl
          have a3 := (cell_of_row _ _ 3 _ _ _ r3).trans (b := some (Value.slice Av a.scopes.length cv)) rfl
          have m0 := (cell_of_row _ _ 0 _ _ _ r6).trans (b := some (Value.int .i64 n.kind)) rfl
          have m1 := (cell_of_row _ _ 1 _ _ _ r6).trans (b := some (Value.int .i64 n.num)) rfl
          have m2 := (cell_of_row _ _ 2 _ _ _ r6).trans (b := some (Value.string n.text)) rfl
          have m3 := (cell_of_row _ _ 3 _ _ _ r6).trans (b := some (Value.slice A3 n.names.length c3)) rfl
          have m4 := (cell_of_row _ _ 4 _ _ _ r6).trans (b := some (Value.slice A4 n.kids.length c4)) rfl
          have m5 := (cell_of_row _ _ 5 _ _ _ r6).trans (b := some (Value.int .i64 n.at_)) rfl
          have hA4 : AE W3 oks (.slice Av a.scopes.length cv) { a with loop := false, fun_ := true, gen := decide (n.num = 1) } := hA3
          have hc := withinE_c (c := c3) (c4 := c4) @IH.out hr hI3 hA4 hO3 f33 f43
          unfold ptr arV at hc
          have HC := hid hc
          clear hc hr HR hI3 hA3 hA4 hO3 f33 f43 r3 r6
          go_wp2_with fail
          refine HC.out.mono ?_
          rintro e w5 ⟨rfl, hL⟩
          have HL := hid (EN.of KPS.out S1w.out hL)
          clear hL
          go_wp2_with fail
          exact bodyPost_end (results_none rfl _ _ _) rfl ⟨rfl, HL.out⟩
        · rename_i h10
          split at hr
          · rename_i h25
            have t33 : (n.kind == (33 : Int)) = false := by simp [h33]
            have t10 : (n.kind == (10 : Int)) = false := by simp [h10]
            have t25 : (n.kind == (25 : Int)) = true := by simp [h25]
            obtain ⟨xs, hxs, hr⟩ := Option.bind_eq_some_iff.1 hr
            clear h33 h10 h25
            have kl : k < G.slots.length := (List.getElem?_eq_some_iff.1 hxs).1
            have kl' : (k : Int) < (G.l.length : Int) := by have := H1.out.lens; omega
            have c2 := H1.out.c2
            have sl : wr.cell? ⟨G.b2, k, none⟩ = some (.int .i64 xs) := (cell_of_row _ _ k _ _ _ H1.out.sl).trans (by simp [slCells, hxs])
            clear hxs
            split at hr
            · rename_i hx0
              have hc := withinE_c (c := 0) (c4 := c4) @IH.out hr H1.out HA1.out HO1.out (Kd.F_nil Kd.string wr (fun _ => False)) F41.out
              unfold ptr arV at hc
              have HC := hid hc
              clear hc hr HR
              go_wp2_with fail
              refine HC.out.mono ?_
              rintro e w5 ⟨rfl, hL⟩
              have HL := hid (EN.pre HBW.out (EN.of K1.out S1.out hL))
              clear hL
              go_wp2_with fail
              exact bodyPost_end (results_none rfl _ _ _) rfl ⟨rfl, HL.out⟩
            · rename_i hx0
              have hc := allE_c (c4 := c4) @IH.out hr H1.out HA1.out HO1.out F41.out
              unfold ptr arV at hc
              have HC := hid hc
              clear hc hr HR
              go_wp2_with fail
              refine HC.out.mono ?_
              rintro e w5 ⟨rfl, hL⟩
              have HL := hid (EN.pre HBW.out (EN.of K1.out S1.out hL))
              clear hL
              go_wp2_with fail
              exact bodyPost_end (results_none rfl _ _ _) rfl ⟨rfl, HL.out⟩
          · rename_i h25
            split at hr
            · rename_i h32
              have t33 : (n.kind == (33 : Int)) = false := by simp [h33]
              have t10 : (n.kind == (10 : Int)) = false := by simp [h10]
              have t25 : (n.kind == (25 : Int)) = false := by simp [h25]
              have t32 : (n.kind == (32 : Int)) = true := by simp [h32]
              obtain ⟨k0, hk0, hr⟩ := Option.bind_eq_some_iff.1 hr
              obtain ⟨k1, hk1, hr⟩ := Option.bind_eq_some_iff.1 hr
              obtain ⟨b3, hr0, hr⟩ := Option.bind_eq_some_iff.1 hr
              obtain ⟨n1, hn1, hr⟩ := Option.bind_eq_some_iff.1 hr
              have HN1 := hid hn1
              clear hn1 h33 h10 h25 h32
              have NE1 := hid (fun b (hb1 : w.heap.size ≤ b) (hb2 : b < w2.heap.size) => (fun q => q.elim (fun q => by have := H.out.lt.1; omega) (fun q => (S1.out b q).elim (fun q => by have := (H.out.off _ q).2.2.2.2; omega) (fun q => by omega)) : ¬ EK G o1 b))
              have l6 := (Array.getElem?_eq_some_iff.1 R6b.out).1
              have LT2 := hid (And.intro (Nat.lt_of_succ_lt l6) l6 : w.heap.size < w2.heap.size ∧ w.heap.size + 1 < w2.heap.size)
              clear l6
              have hkl0 : 1 < n.kids.length := (List.getElem?_eq_some_iff.1 hk1).1
              have hkn : 0 < n.kids.length := by omega
              have hkl20 : (0 : Int) < (n.kids.length : Int) := by omega
              have hkl21 : (1 : Int) < (n.kids.length : Int) := by omega
              have HK1 := hid hk1
              obtain ⟨ad, rfl, q0⟩ := Kd.at_int (Kd.F_now F41.out) 0 (by omega) (by omega)
              have hx : rd (ints n.kids) 0 = (k0 : Int) := by unfold rd ints; simp [List.getElem?_map, hk0]
              rw [hx] at q0
              have q0' : wr.cell? ad = some (.int .i64 k0) := by simpa [Addr.add] using q0
              have hc := @IH.out _ _ _ _ hr0 wr.drew _ _ _ _ (H1.out.below (below_drew (Below.refl _ _))) (HA1.out.below (below_drew (Below.refl _ _))) HO1.out
              unfold ptr arV at hc
              have HC := hid hc
              have HR2 := hid hr
              clear hx q0 hc hr hr0 hk0 hk1 HR
              go_upto_region 19 with fail
              refine wp_region_still_tail 6 (by kernel_rfl) (by kernel_rfl) ?_
              simp only [List.take_succ_cons, List.take_zero, List.drop_succ_cons, List.drop_zero]
              still_step
              still_step
              still_step
              still_step
              still_step
              still_step
              refine wpStill_nil ?_
              change wpList _ _ _ _ _ wr.drew
              go_wp2_with fail
              refine HC.out.mono ?_
              rintro e w5 ⟨rfl, o5, v5, h5, k5, s5⟩
              have r45 := k5.heap (show wr.drew.heap[w.heap.size]? = _ from R41.out) (NE1.out _ (Nat.le_refl _) LT2.out.1)
              have r65 := k5.heap (show wr.drew.heap[w.heap.size + 1]? = _ from R61.out) (NE1.out _ (Nat.le_succ _) LT2.out.2)
              have KP5 := hid ((K1.out.below (below_drew (Below.refl _ _))).trans k5 (fun k q => q.elim (fun e => .inl (.inl e)) (fun h => (S1.out k h).imp .inr id)))
              have S5 := hid (fun k h => (s5 k h).elim (S1.out k) (fun h => .inr (Nat.le_trans K1.out.size h)) : ∀ k, o5 k → okb k ∨ w2.heap.size ≤ k)
              have F45 := hid (Kd.F_step F41.out (W1 := w5) (fun j hj _ => k5.offE (w := wr.drew) H1.out.offL j hj))
              have HA5 := hid (HA1.out.step (w' := w5) (k5.offE (w := wr.drew) HO1.out))
              have HO5 := hid (fun k hk => ⟨(HO1.out k hk).1, fun q => (s5 k q).elim (HO1.out k hk).2.1 (fun q => by have := (HO1.out k hk).2.2; have : wr.heap.size ≤ k := q; omega), Nat.lt_of_lt_of_le (HO1.out k hk).2.2 k5.size⟩ : ∀ k, oks k → k ≠ G.a ∧ ¬ o5 k ∧ k < w5.heap.size)
              have H5 := hid h5
              have lw5 : w.heap.size + 1 < w5.heap.size := (Array.getElem?_eq_some_iff.1 r65).1
              have LT := hid H.out.lt
              have LT2' := hid LT2.out.1
              have NO5 := hid (fun k (hk : w.heap.size ≤ k) (hk2 : k < w2.heap.size) => (fun q => (S5.out k q).elim (fun q => by have := (H.out.off k q).2.2.2.2; omega) (fun q => by omega) : ¬ o5 k))
              clear h5 k5 s5 a0 a1 a2 a3 m0 m1 m2 m3 m4 m5 q0'
              have a0 := (cell_of_row _ _ 0 _ _ _ r45).trans (b := some (Value.bool a.loop)) rfl
              have a1 := (cell_of_row _ _ 1 _ _ _ r45).trans (b := some (Value.bool a.fun_)) rfl
              have a2 := (cell_of_row _ _ 2 _ _ _ r45).trans (b := some (Value.bool a.gen)) rfl
              have a3 := (cell_of_row _ _ 3 _ _ _ r45).trans (b := some (Value.slice Av a.scopes.length cv)) rfl
              have m0 := (cell_of_row _ _ 0 _ _ _ r65).trans (b := some (Value.int .i64 n.kind)) rfl
              have m1 := (cell_of_row _ _ 1 _ _ _ r65).trans (b := some (Value.int .i64 n.num)) rfl
              have m2 := (cell_of_row _ _ 2 _ _ _ r65).trans (b := some (Value.string n.text)) rfl
              have m3 := (cell_of_row _ _ 3 _ _ _ r65).trans (b := some (Value.slice A3 n.names.length c3)) rfl
              have m4 := (cell_of_row _ _ 4 _ _ _ r65).trans (b := some (Value.slice (some ad) n.kids.length c4)) rfl
              have m5 := (cell_of_row _ _ 5 _ _ _ r65).trans (b := some (Value.int .i64 n.at_)) rfl
              obtain ⟨ad', e', q1'⟩ := Kd.at_int (Kd.F_now F45.out) 1 (by omega) (by omega)
              injection e' with e'
              subst e'
              have hx : rd (ints n.kids) 1 = (k1 : Int) := by unfold rd ints; simp [List.getElem?_map, HK1.out]
              rw [hx] at q1'
              have q1 : w5.cell? ⟨ad.block, ad.off + 1, none⟩ = some (.int .i64 k1) := by simpa [Addr.add] using q1'
              clear hx q1'
              obtain ⟨B3, d3, B4, d4, hk1l, _, _, _, _, q4, _, _, _, _, fk1⟩ := H5.out.nodes.node HN1.out
              have HFK1 := hid fk1
              have g0 := H5.out.c0
              have hk1l' : (k1 : Int) < (G.l.length : Int) := by omega
              have hadl : ad.block < w5.heap.size := cell_lt (p := ⟨ad.block, ad.off + 1, none⟩) q1
              have hgl : G.g < w5.heap.size := cell_lt (p := ⟨G.g, k1 * 6 + 4, none⟩) q4
              have hal := H5.out.lt.1
              have hnb5 : w.heap.size < w5.heap.size := by omega
              clear fk1 r45 r65
              go_upto_region 20 with fail
              refine wp_region_until [16] (S := (fun w' => w'.cell? ⟨w.heap.size, 0, none⟩ = some (.bool a.loop) ∧ w'.cell? ⟨w.heap.size, 1, none⟩ = some (.bool a.fun_) ∧ w'.cell? ⟨w.heap.size, 2, none⟩ = some (.bool a.gen) ∧ w'.cell? ⟨w.heap.size, 3, none⟩ = some (.slice Av a.scopes.length cv) ∧ w'.cell? ⟨w.heap.size + 1, 4, none⟩ = some (.slice (some ad) n.kids.length c4) ∧ w'.cell? ⟨w.heap.size + 1, 2, none⟩ = some (.string n.text) ∧ w'.cell? ⟨G.a, 0, none⟩ = some (.slice (some ⟨G.g, 0, none⟩) G.l.length G.cap) ∧ w'.cell? ⟨ad.block, ad.off + 1, none⟩ = some (.int .i64 (k1 : Nat)) ∧ w'.cell? ⟨G.g, k1 * 6 + 4, none⟩ = some (.slice B4 n1.kids.length d4))) (by kernel_rfl) ?_ ?_
              · go_keep
              intro hS
              refine wpAnyU_take (i := 0) (v := (.pointer (some ⟨G.a, 0, none⟩))) rfl (by kernel_rfl) (fun _ _ _ h => h) (leads_of [[16]] (by kernel_rfl)) (by kernel_rfl) (by kernel_rfl) (by kernel_rfl) (Or.inl ⟨by rfl, ?_⟩) hS ?_
              · intro w' hS'
                obtain ⟨s0, s1, s2, s3, s4, s5, s6, s7, s8⟩ := hS'
                go_simp
              change wpAnyU _ _ _ _ _ _ _ _ (Act.put _ (some 90) _) _
              simp only [Act.put, List.setIfInBounds_toArray, List.set_cons_succ, List.set_cons_zero]
              refine wpAnyU_take (i := 1) (v := (.agg #[.bool a.loop, .bool a.fun_, .bool a.gen, .slice Av a.scopes.length cv])) rfl (by kernel_rfl) (fun _ _ _ h => h) (leads_of [[16]] (by kernel_rfl)) (by kernel_rfl) (by kernel_rfl) (by kernel_rfl) (Or.inl ⟨by rfl, ?_⟩) hS ?_
              · intro w' hS'
                obtain ⟨s0, s1, s2, s3, s4, s5, s6, s7, s8⟩ := hS'
                go_simp
              change wpAnyU _ _ _ _ _ _ _ _ (Act.put _ (some 91) _) _
              simp only [Act.put, List.setIfInBounds_toArray, List.set_cons_succ, List.set_cons_zero]
              refine wpAnyU_take (i := 2) (v := (.pointer (some ⟨w.heap.size + 1, 2, none⟩))) rfl (by kernel_rfl) (fun _ _ _ h => h) (leads_of [[3, 4, 16]] (by kernel_rfl)) (by kernel_rfl) (by kernel_rfl) (by kernel_rfl) (Or.inl ⟨by rfl, ?_⟩) hS ?_
              · intro w' hS'
                obtain ⟨s0, s1, s2, s3, s4, s5, s6, s7, s8⟩ := hS'
                go_simp
              change wpAnyU _ _ _ _ _ _ _ _ (Act.put _ (some 92) _) _
              simp only [Act.put, List.setIfInBounds_toArray, List.set_cons_succ, List.set_cons_zero]
              refine wpAnyU_take (i := 3) (v := (.string n.text)) rfl (by kernel_rfl) (fun _ _ _ h => h) (leads_of [[4, 16]] (by kernel_rfl)) (by kernel_rfl) (by kernel_rfl) (by kernel_rfl) (Or.inl ⟨by rfl, ?_⟩) hS ?_
              · intro w' hS'
                obtain ⟨s0, s1, s2, s3, s4, s5, s6, s7, s8⟩ := hS'
                go_simp
              change wpAnyU _ _ _ _ _ _ _ _ (Act.put _ (some 93) _) _
              simp only [Act.put, List.setIfInBounds_toArray, List.set_cons_succ, List.set_cons_zero]
              refine wpAnyU_take (i := 5) (v := (.pointer (some ⟨G.a, 0, none⟩))) rfl (by kernel_rfl) (fun _ _ _ h => h) (leads_of [[6, 7, 8, 13, 14, 15, 16]] (by kernel_rfl)) (by kernel_rfl) (by kernel_rfl) (by kernel_rfl) (Or.inl ⟨by rfl, ?_⟩) hS ?_
              · intro w' hS'
                obtain ⟨s0, s1, s2, s3, s4, s5, s6, s7, s8⟩ := hS'
                go_simp
              change wpAnyU _ _ _ _ _ _ _ _ (Act.put _ (some 95) _) _
              simp only [Act.put, List.setIfInBounds_toArray, List.set_cons_succ, List.set_cons_zero]
              refine wpAnyU_take (i := 6) (v := (.pointer (some ⟨G.a, 0, none⟩))) rfl (by kernel_rfl) (fun _ _ _ h => h) (leads_of [[7, 8, 13, 14, 15, 16]] (by kernel_rfl)) (by kernel_rfl) (by kernel_rfl) (by kernel_rfl) (Or.inl ⟨by rfl, ?_⟩) hS ?_
              · intro w' hS'
                obtain ⟨s0, s1, s2, s3, s4, s5, s6, s7, s8⟩ := hS'
                go_simp
              change wpAnyU _ _ _ _ _ _ _ _ (Act.put _ (some 96) _) _
              simp only [Act.put, List.setIfInBounds_toArray, List.set_cons_succ, List.set_cons_zero]
              refine wpAnyU_take (i := 7) (v := (.pointer (some ⟨G.a, 0, none⟩))) rfl (by kernel_rfl) (fun _ _ _ h => h) (leads_of [[8, 13, 14, 15, 16]] (by kernel_rfl)) (by kernel_rfl) (by kernel_rfl) (by kernel_rfl) (Or.inl ⟨by rfl, ?_⟩) hS ?_
              · intro w' hS'
                obtain ⟨s0, s1, s2, s3, s4, s5, s6, s7, s8⟩ := hS'
                go_simp
              change wpAnyU _ _ _ _ _ _ _ _ (Act.put _ (some 97) _) _
              simp only [Act.put, List.setIfInBounds_toArray, List.set_cons_succ, List.set_cons_zero]
              refine wpAnyU_take (i := 8) (v := (.slice (some ⟨G.g, 0, none⟩) G.l.length G.cap)) rfl (by kernel_rfl) (fun _ _ _ h => h) (leads_of [[13, 14, 15, 16]] (by kernel_rfl)) (by kernel_rfl) (by kernel_rfl) (by kernel_rfl) (Or.inl ⟨by rfl, ?_⟩) hS ?_
              · intro w' hS'
                obtain ⟨s0, s1, s2, s3, s4, s5, s6, s7, s8⟩ := hS'
                go_simp
              change wpAnyU _ _ _ _ _ _ _ _ (Act.put _ (some 98) _) _
              simp only [Act.put, List.setIfInBounds_toArray, List.set_cons_succ, List.set_cons_zero]
              refine wpAnyU_take (i := 9) (v := (.pointer (some ⟨w.heap.size + 1, 4, none⟩))) rfl (by kernel_rfl) (fun _ _ _ h => h) (leads_of [[10, 11, 12, 13, 14, 15, 16]] (by kernel_rfl)) (by kernel_rfl) (by kernel_rfl) (by kernel_rfl) (Or.inl ⟨by rfl, ?_⟩) hS ?_
              · intro w' hS'
                obtain ⟨s0, s1, s2, s3, s4, s5, s6, s7, s8⟩ := hS'
                go_simp
              change wpAnyU _ _ _ _ _ _ _ _ (Act.put _ (some 99) _) _
              simp only [Act.put, List.setIfInBounds_toArray, List.set_cons_succ, List.set_cons_zero]
              refine wpAnyU_take (i := 10) (v := (.slice (some ad) n.kids.length c4)) rfl (by kernel_rfl) (fun _ _ _ h => h) (leads_of [[11, 12, 13, 14, 15, 16]] (by kernel_rfl)) (by kernel_rfl) (by kernel_rfl) (by kernel_rfl) (Or.inl ⟨by rfl, ?_⟩) hS ?_
              · intro w' hS'
                obtain ⟨s0, s1, s2, s3, s4, s5, s6, s7, s8⟩ := hS'
                go_simp
              change wpAnyU _ _ _ _ _ _ _ _ (Act.put _ (some 100) _) _
              simp only [Act.put, List.setIfInBounds_toArray, List.set_cons_succ, List.set_cons_zero]
              refine wpAnyU_take (i := 11) (v := (.pointer (some ⟨ad.block, ad.off + 1, none⟩))) rfl (by kernel_rfl) (fun _ _ _ h => h) (leads_of [[12, 13, 14, 15, 16]] (by kernel_rfl)) (by kernel_rfl) (by kernel_rfl) (by kernel_rfl) (Or.inl ⟨by rfl, ?_⟩) hS ?_
              · intro w' hS'
                obtain ⟨s0, s1, s2, s3, s4, s5, s6, s7, s8⟩ := hS'
                go_simp
              change wpAnyU _ _ _ _ _ _ _ _ (Act.put _ (some 101) _) _
              simp only [Act.put, List.setIfInBounds_toArray, List.set_cons_succ, List.set_cons_zero]
              refine wpAnyU_take (i := 12) (v := (.int .i64 (k1 : Nat))) rfl (by kernel_rfl) (fun _ _ _ h => h) (leads_of [[13, 14, 15, 16]] (by kernel_rfl)) (by kernel_rfl) (by kernel_rfl) (by kernel_rfl) (Or.inl ⟨by rfl, ?_⟩) hS ?_
              · intro w' hS'
                obtain ⟨s0, s1, s2, s3, s4, s5, s6, s7, s8⟩ := hS'
                go_simp
              change wpAnyU _ _ _ _ _ _ _ _ (Act.put _ (some 102) _) _
              simp only [Act.put, List.setIfInBounds_toArray, List.set_cons_succ, List.set_cons_zero]
              refine wpAnyU_take (i := 13) (v := (.pointer (some ⟨G.g, k1 * 6, none⟩))) rfl (by kernel_rfl) (fun _ _ _ h => h) (leads_of [[14, 15, 16]] (by kernel_rfl)) (by kernel_rfl) (by kernel_rfl) (by kernel_rfl) (Or.inl ⟨by rfl, ?_⟩) hS ?_
              · intro w' hS'
                obtain ⟨s0, s1, s2, s3, s4, s5, s6, s7, s8⟩ := hS'
                go_simp
              change wpAnyU _ _ _ _ _ _ _ _ (Act.put _ (some 103) _) _
              simp only [Act.put, List.setIfInBounds_toArray, List.set_cons_succ, List.set_cons_zero]
              refine wpAnyU_take (i := 14) (v := (.pointer (some ⟨G.g, k1 * 6 + 4, none⟩))) rfl (by kernel_rfl) (fun _ _ _ h => h) (leads_of [[15, 16]] (by kernel_rfl)) (by kernel_rfl) (by kernel_rfl) (by kernel_rfl) (Or.inl ⟨by rfl, ?_⟩) hS ?_
              · intro w' hS'
                obtain ⟨s0, s1, s2, s3, s4, s5, s6, s7, s8⟩ := hS'
                go_simp
              change wpAnyU _ _ _ _ _ _ _ _ (Act.put _ (some 104) _) _
              simp only [Act.put, List.setIfInBounds_toArray, List.set_cons_succ, List.set_cons_zero]
              refine wpAnyU_take (i := 15) (v := (.slice B4 n1.kids.length d4)) rfl (by kernel_rfl) (fun _ _ _ h => h) (leads_of [[16]] (by kernel_rfl)) (by kernel_rfl) (by kernel_rfl) (by kernel_rfl) (Or.inl ⟨by rfl, ?_⟩) hS ?_
              · intro w' hS'
                obtain ⟨s0, s1, s2, s3, s4, s5, s6, s7, s8⟩ := hS'
                go_simp
              change wpAnyU _ _ _ _ _ _ _ _ (Act.put _ (some 105) _) _
              simp only [Act.put, List.setIfInBounds_toArray, List.set_cons_succ, List.set_cons_zero]
              refine wpAnyU_all (rs := [4]) (by kernel_rfl) (by simp) ?_
              intro j hj
              obtain rfl := List.mem_singleton.1 hj
              clear hj
              refine wpOp_shut rfl (fun K' HK => ?_)
              go_simp
              refine HK.out _ _ ⟨.inr ?_, ?_⟩
              · exact ⟨keepc ((Below.refl w5.heap.size w5).drew.alloc (Nat.le_refl _) (.cells #[.string n.text] 9)) a0, keepc ((Below.refl w5.heap.size w5).drew.alloc (Nat.le_refl _) (.cells #[.string n.text] 9)) a1, keepc ((Below.refl w5.heap.size w5).drew.alloc (Nat.le_refl _) (.cells #[.string n.text] 9)) a2, keepc ((Below.refl w5.heap.size w5).drew.alloc (Nat.le_refl _) (.cells #[.string n.text] 9)) a3, keepc ((Below.refl w5.heap.size w5).drew.alloc (Nat.le_refl _) (.cells #[.string n.text] 9)) m4, keepc ((Below.refl w5.heap.size w5).drew.alloc (Nat.le_refl _) (.cells #[.string n.text] 9)) m2, keepc ((Below.refl w5.heap.size w5).drew.alloc (Nat.le_refl _) (.cells #[.string n.text] 9)) g0, keepc ((Below.refl w5.heap.size w5).drew.alloc (Nat.le_refl _) (.cells #[.string n.text] 9)) q1, keepc ((Below.refl w5.heap.size w5).drew.alloc (Nat.le_refl _) (.cells #[.string n.text] 9)) q4⟩
              clear HK K'
              have hS := And.intro (keepc ((Below.refl w5.heap.size w5).drew.alloc (Nat.le_refl _) (.cells #[.string n.text] 9)) a0) (And.intro (keepc ((Below.refl w5.heap.size w5).drew.alloc (Nat.le_refl _) (.cells #[.string n.text] 9)) a1) (And.intro (keepc ((Below.refl w5.heap.size w5).drew.alloc (Nat.le_refl _) (.cells #[.string n.text] 9)) a2) (And.intro (keepc ((Below.refl w5.heap.size w5).drew.alloc (Nat.le_refl _) (.cells #[.string n.text] 9)) a3) (And.intro (keepc ((Below.refl w5.heap.size w5).drew.alloc (Nat.le_refl _) (.cells #[.string n.text] 9)) m4) (And.intro (keepc ((Below.refl w5.heap.size w5).drew.alloc (Nat.le_refl _) (.cells #[.string n.text] 9)) m2) (And.intro (keepc ((Below.refl w5.heap.size w5).drew.alloc (Nat.le_refl _) (.cells #[.string n.text] 9)) g0) (And.intro (keepc ((Below.refl w5.heap.size w5).drew.alloc (Nat.le_refl _) (.cells #[.string n.text] 9)) q1) (keepc ((Below.refl w5.heap.size w5).drew.alloc (Nat.le_refl _) (.cells #[.string n.text] 9)) q4))))))))
              try simp only [Act.put, List.setIfInBounds_toArray, List.set_cons_succ, List.set_cons_zero]
              refine wpAnyU_all (rs := [16]) (by kernel_rfl) (by simp) ?_
              intro j hj
              obtain rfl := List.mem_singleton.1 hj
              clear hj
              refine wpOp_shut rfl (fun K' HK => ?_)
              refine step_call rfl (f := 55) rfl Try.func55 (by kernel_rfl) rfl #[(.pointer (some ⟨G.a, 0, none⟩)), (.agg #[.bool a.loop, .bool a.fun_, .bool a.gen, .slice Av a.scopes.length cv]), (.slice (some ⟨w5.heap.size, 0, none⟩) 1 1), (.slice B4 n1.kids.length d4)] (by simp only [List.map_toArray, List.map_cons, List.map_nil]; rfl) ?_
              have hc := withinE_c (a := a) (c := 1) (c4 := d4) @IH.out HR2.out (H5.out.below ((Below.refl w5.heap.size w5).drew.alloc (Nat.le_refl _) (.cells #[.string n.text] 9))) (HA5.out.below ((Below.refl w5.heap.size w5).drew.alloc (Nat.le_refl _) (.cells #[.string n.text] 9))) (fun k hk => ⟨(HO5.out k hk).1, (HO5.out k hk).2.1, Nat.lt_of_lt_of_le (HO5.out k hk).2.2 (((Below.refl w5.heap.size w5).drew.alloc (Nat.le_refl _) (.cells #[.string n.text] 9))).size⟩) (textF w5.drew n.text) (Kd.F_below HFK1.out ((Below.refl w5.heap.size w5).drew.alloc (Nat.le_refl _) (.cells #[.string n.text] 9)))
              unfold ptr arV at hc
              refine hc.mono ?_
              clear hc
              rintro e w6 ⟨rfl, hL6⟩
              refine ⟨_, rfl, ?_⟩
              have HL6 := hid (EN.pre ((Below.refl w5.heap.size w5).drew.alloc (Nat.le_refl _) (.cells #[.string n.text] 9)) hL6)
              clear hL6
              refine HK.out _ _ ⟨.inl (by decide), ?_⟩
              clear HK K'
              change wpAnyU _ _ _ _ _ _ _ _ (Act.put _ (some 106) _) _
              simp only [Act.put, List.setIfInBounds_toArray, List.set_cons_succ, List.set_cons_zero]
              refine wpAnyU_done (by kernel_rfl) ?_ _
              have HL := hid (EN.pre HBW.out (EN.of KP5.out S5.out HL6.out))
              clear HL6
              go_wp2_with fail
              exact bodyPost_end (results_none rfl _ _ _) rfl ⟨rfl, HL.out⟩
            · rename_i h32
              split at hr
              · rename_i h27
                have t33 : (n.kind == (33 : Int)) = false := by simp [h33]
                have t10 : (n.kind == (10 : Int)) = false := by simp [h10]
                have t25 : (n.kind == (25 : Int)) = false := by simp [h25]
                have t32 : (n.kind == (32 : Int)) = false := by simp [h32]
                have t27 : (n.kind == (27 : Int)) = true := by simp [h27]
                obtain ⟨k0, hk0, hr⟩ := Option.bind_eq_some_iff.1 hr
                obtain ⟨k1, hk1, hr⟩ := Option.bind_eq_some_iff.1 hr
                obtain ⟨b3, hr0, hr⟩ := Option.bind_eq_some_iff.1 hr
                clear h33 h10 h25 h32 h27
                have NE1 := hid (fun b (hb1 : w.heap.size ≤ b) (hb2 : b < w2.heap.size) => (fun q => q.elim (fun q => by have := H.out.lt.1; omega) (fun q => (S1.out b q).elim (fun q => by have := (H.out.off _ q).2.2.2.2; omega) (fun q => by omega)) : ¬ EK G o1 b))
                have l6 := (Array.getElem?_eq_some_iff.1 R6b.out).1
                have LT2 := hid (And.intro (Nat.lt_of_succ_lt l6) l6 : w.heap.size < w2.heap.size ∧ w.heap.size + 1 < w2.heap.size)
                clear l6
                have hkl0 : 1 < n.kids.length := (List.getElem?_eq_some_iff.1 hk1).1
                have hkn : 0 < n.kids.length := by omega
                have hkl20 : (0 : Int) < (n.kids.length : Int) := by omega
                have hkl21 : (1 : Int) < (n.kids.length : Int) := by omega
                have HK1 := hid hk1
                obtain ⟨ad, rfl, q0⟩ := Kd.at_int (Kd.F_now F41.out) 0 (by omega) (by omega)
                have hx : rd (ints n.kids) 0 = (k0 : Int) := by unfold rd ints; simp [List.getElem?_map, hk0]
                rw [hx] at q0
                have q0' : wr.cell? ad = some (.int .i64 k0) := by simpa [Addr.add] using q0
                have hc := @IH.out _ _ _ _ hr0 wr.drew _ _ _ _ (H1.out.below (below_drew (Below.refl _ _))) (HA1.out.below (below_drew (Below.refl _ _))) HO1.out
                unfold ptr arV at hc
                have HC := hid hc
                have HR2 := hid hr
                clear hx q0 hc hr hr0 hk0 hk1 HR
                go_upto_region 22 with fail
                refine wp_region_still_tail 6 (by kernel_rfl) (by kernel_rfl) ?_
                simp only [List.take_succ_cons, List.take_zero, List.drop_succ_cons, List.drop_zero]
                still_step
                still_step
                still_step
                still_step
                still_step
                still_step
                refine wpStill_nil ?_
                change wpList _ _ _ _ _ wr.drew
                go_wp2_with fail
                refine HC.out.mono ?_
                rintro e w5 ⟨rfl, o5, v5, h5, k5, s5⟩
                have r45 := k5.heap (show wr.drew.heap[w.heap.size]? = _ from R41.out) (NE1.out _ (Nat.le_refl _) LT2.out.1)
                have r65 := k5.heap (show wr.drew.heap[w.heap.size + 1]? = _ from R61.out) (NE1.out _ (Nat.le_succ _) LT2.out.2)
                have KP5 := hid ((K1.out.below (below_drew (Below.refl _ _))).trans k5 (fun k q => q.elim (fun e => .inl (.inl e)) (fun h => (S1.out k h).imp .inr id)))
                have S5 := hid (fun k h => (s5 k h).elim (S1.out k) (fun h => .inr (Nat.le_trans K1.out.size h)) : ∀ k, o5 k → okb k ∨ w2.heap.size ≤ k)
                have F45 := hid (Kd.F_step F41.out (W1 := w5) (fun j hj _ => k5.offE (w := wr.drew) H1.out.offL j hj))
                have HA5 := hid (HA1.out.step (w' := w5) (k5.offE (w := wr.drew) HO1.out))
                have HO5 := hid (fun k hk => ⟨(HO1.out k hk).1, fun q => (s5 k q).elim (HO1.out k hk).2.1 (fun q => by have := (HO1.out k hk).2.2; have : wr.heap.size ≤ k := q; omega), Nat.lt_of_lt_of_le (HO1.out k hk).2.2 k5.size⟩ : ∀ k, oks k → k ≠ G.a ∧ ¬ o5 k ∧ k < w5.heap.size)
                have H5 := hid h5
                have lw5 : w.heap.size + 1 < w5.heap.size := (Array.getElem?_eq_some_iff.1 r65).1
                have LT := hid H.out.lt
                have LT2' := hid LT2.out.1
                have NO5 := hid (fun k (hk : w.heap.size ≤ k) (hk2 : k < w2.heap.size) => (fun q => (S5.out k q).elim (fun q => by have := (H.out.off k q).2.2.2.2; omega) (fun q => by omega) : ¬ o5 k))
                clear h5 k5 s5 a0 a1 a2 a3 m0 m1 m2 m3 m4 m5 q0'
                have a0 := (cell_of_row _ _ 0 _ _ _ r45).trans (b := some (Value.bool a.loop)) rfl
                have z0 : w5.frozen? ⟨w.heap.size, 0, none⟩ = false := by simp [World.frozen?, r45]
                go_upto_region 24 with fail
                have kpS : Kp (fun j => j = w.heap.size) w5 (w5.setCell ⟨w.heap.size, 0, none⟩ (.bool true)) := Kp.set (K := fun j => j = w.heap.size) (p := ⟨w.heap.size, 0, none⟩) _ rfl
                have r46 : (w5.setCell ⟨w.heap.size, 0, none⟩ (.bool true)).heap[w.heap.size]? = some (.cells #[.bool true, .bool a.fun_, .bool a.gen, .slice Av a.scopes.length cv] 83 (0, 0)) := blk_put r45 0 (.bool true) rfl
                have r66 := kpS.heap r65 (Nat.succ_ne_self _)
                have hI6 := H5.out.kp kpS (by have := LT.out; exact ⟨fun q => by omega, fun q => by omega, fun q => by omega⟩) (fun k q1 q => by have := (H.out.offl k q1).2; omega) (fun k q1 q => NO5.out k (by omega) (by have := LT2'.out; omega) q1)
                have hA6 : AE (w5.setCell ⟨w.heap.size, 0, none⟩ (.bool true)) oks (.slice Av a.scopes.length cv) { a with loop := true } := HA5.out.step (fun k hk => kpS.block k (HO5.out k hk).2.2 (fun q => by have := (HO.out k hk).2.2; omega))
                have hO6 : ∀ k, oks k → k ≠ G.a ∧ ¬ o5 k ∧ k < (w5.setCell ⟨w.heap.size, 0, none⟩ (.bool true)).heap.size := fun k hk => ⟨(HO5.out k hk).1, (HO5.out k hk).2.1, Nat.lt_of_lt_of_le (HO5.out k hk).2.2 kpS.size⟩
                have f46 := Kd.F_step F45.out (W1 := (w5.setCell ⟨w.heap.size, 0, none⟩ (.bool true))) (fun j hj _ => kpS.block j (H5.out.offl j hj).2 (fun q => by have := (H.out.offl j hj).2; omega))
                have KPS := hid (((Kp.of_below (K := EK G okb) HBW.out).trans KP5.out (fun _ h => .inl h)).trans kpS (fun k q => .inr (by omega)))
                have S5w := hid (fun k q => (S5.out k q).imp id (fun q => Nat.le_trans HBW.out.size q) : ∀ k, o5 k → okb k ∨ w.heap.size ≤ k)
                have lw6 := kpS.size
                clear kpS z0 a0
                generalize (w5.setCell ⟨w.heap.size, 0, none⟩ (.bool true)) = W6 at *
                have a0 := (cell_of_row _ _ 0 _ _ _ r46).trans (b := some (Value.bool true)) rfl
                have a1 := (cell_of_row _ _ 1 _ _ _ r46).trans (b := some (Value.bool a.fun_)) rfl
                have a2 := (cell_of_row _ _ 2 _ _ _ r46).trans (b := some (Value.bool a.gen)) rfl
                have a3 := (cell_of_row _ _ 3 _ _ _ r46).trans (b := some (Value.slice Av a.scopes.length cv)) rfl
                have m0 := (cell_of_row _ _ 0 _ _ _ r66).trans (b := some (Value.int .i64 n.kind)) rfl
                have m1 := (cell_of_row _ _ 1 _ _ _ r66).trans (b := some (Value.int .i64 n.num)) rfl
                have m2 := (cell_of_row _ _ 2 _ _ _ r66).trans (b := some (Value.string n.text)) rfl
                have m3 := (cell_of_row _ _ 3 _ _ _ r66).trans (b := some (Value.slice A3 n.names.length c3)) rfl
                have m4 := (cell_of_row _ _ 4 _ _ _ r66).trans (b := some (Value.slice (some ad) n.kids.length c4)) rfl
                have m5 := (cell_of_row _ _ 5 _ _ _ r66).trans (b := some (Value.int .i64 n.at_)) rfl
                obtain ⟨ad', e', q1'⟩ := Kd.at_int (Kd.F_now f46) 1 (by omega) (by omega)
                injection e' with e'
                subst e'
                have hx : rd (ints n.kids) 1 = (k1 : Int) := by unfold rd ints; simp [List.getElem?_map, HK1.out]
                rw [hx] at q1'
                have q1 : W6.cell? ⟨ad.block, ad.off + 1, none⟩ = some (.int .i64 k1) := by simpa [Addr.add] using q1'
                clear hx q1'
                have hc := @IH.out _ _ _ _ HR2.out W6.drew _ _ _ _ (hI6.below (below_drew (Below.refl _ _))) (hA6.below (below_drew (Below.refl _ _))) hO6
                unfold ptr arV at hc
                have HC2 := hid hc
                clear hc hI6 hA6 hO6 f46 r46 r66
                go_still_tail 6, (by kernel_rfl)
                change wpList _ _ _ _ _ W6.drew
                go_wp2_with fail
                refine HC2.out.mono ?_
                rintro e w7 ⟨rfl, hL⟩
                have HL := hid (EN.of KPS.out S5w.out (EN.pre (below_drew (Below.refl _ _)) hL))
                clear hL
                go_wp2_with fail
                exact bodyPost_end (results_none rfl _ _ _) rfl ⟨rfl, HL.out⟩
              · rename_i h27
                have t33 : (n.kind == (33 : Int)) = false := by simp [h33]
                have t10 : (n.kind == (10 : Int)) = false := by simp [h10]
                have t25 : (n.kind == (25 : Int)) = false := by simp [h25]
                have t32 : (n.kind == (32 : Int)) = false := by simp [h32]
                have t27 : (n.kind == (27 : Int)) = false := by simp [h27]
                clear h33 h10 h25 h32 h27
                have hc := allE_c (c4 := c4) @IH.out hr H1.out HA1.out HO1.out F41.out
                unfold ptr arV at hc
                have HC := hid hc
                clear hc hr HR
                go_wp2_with fail
                refine HC.out.mono ?_
                rintro e w5 ⟨rfl, hL⟩
                have HL := hid (EN.pre HBW.out (EN.of K1.out S1.out hL))
                clear hL
                go_wp2_with fail
                exact bodyPost_end (results_none rfl _ _ _) rfl ⟨rfl, HL.out⟩
end
end Go.Proofs.Yticbjhicjegfoaa.Q
