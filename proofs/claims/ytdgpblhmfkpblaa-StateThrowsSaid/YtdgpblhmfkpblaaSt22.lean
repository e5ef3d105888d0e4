/- All. -/
import Derived.Test.YtdgpblhmfkpblaaSt21
namespace Go.Proofs.Ytdgpblhmfkpblaa.Pg
open Go.RowKit

/-- A view in memory of one's own. -/
def ViewO (B : Bd) (w : World) (base : Nat) (v : Value) (P : PS) : Prop := ∃ Ac nc pc A1 n1 p1 A2 n2 p2 A3 n3 p3 rows, v = .agg #[.int .i64 P.status, .int .i64 0, .int .i64 0, .slice Ac nc pc, .slice A1 n1 p1, .int .i64 0, .slice A2 n2 p2, .slice none 0 0, .int .i64 0, .slice none 0 0, .slice none 0 0, .slice A3 n3 p3] ∧
  Out B w base (.slice Ac nc pc) P.cells ∧ ROut w base 50 9 (.slice A1 n1 p1) rows ∧ FrOuts w base P.frames rows ∧ ROut w base 69 8 (.slice A2 n2 p2) (P.jobs.map JobD.row) ∧ ROut w base 9 1 (.slice A3 n3 p3) (P.outs.map keyRow)
/-- No row is too long to be copied. -/
structure PS.ok (P : PS) : Prop where
  cells : P.cells.length ≤ 4096
  frames : P.frames.length ≤ 100000
  jobs : P.jobs.length ≤ 100000
  outs : P.outs.length ≤ 100000
  rows : ∀ F ∈ P.frames, F.vals.length ≤ 100000 ∧ F.tries.length ≤ 100000
section
variable {B B' : Bd} {w w' : World} {G G' : SG} {P P' : PS} {D D' : FD} {hs : List Nat} {L : List (Option (List CD))} {i : Nat}
theorem FrX.here {F : FrD} {c : List Value} (h : FrX B w F c) : FrameR (here w) w F c := by
  obtain ⟨v, t, rfl, h1, h2⟩ := h
  obtain ⟨A, p, rfl⟩ := h1.slice
  obtain ⟨A', n', p', rfl, _⟩ := id h2
  exact ⟨_, _, _, _, _, _, rfl, h1.here, h2.here⟩
theorem StOk.framesHere (h : StOk B w G P) : FramesR (here w) w P.frames G.rows :=
  ⟨h.len, fun i F hF => by
    have hi := (List.getElem?_eq_some_iff.1 hF).1
    have hi' : i < G.rows.length := by rw [h.len]; exact hi
    exact ⟨_, List.getElem?_eq_getElem hi', (h.row i F _ hF (List.getElem?_eq_getElem hi')).here⟩⟩
theorem FrOut.setV {base k T : Nat} {F : FrD} {c : List Value} (h : FrOut w base F c) (hT : Typ w k T) (hn : T ≠ 33 ∧ T ≠ 57) (o : Nat) (u : Value) : FrOut (w.setCell ⟨k, o, none⟩ u) base F c := by
  obtain ⟨A, n, p, A', n', p', e, h1, h2⟩ := h
  exact ⟨A, n, p, A', n', p', e, h1.stay (fun g hg => set_ne _ (fun e => by subst e; exact hn.1 (hT.uniq (own_typ h1 hg).1))), h2.stay (fun g hg => set_ne _ (fun e => by subst e; exact hn.2 (hT.uniq (own_typ h2 hg).1)))⟩
theorem FrOuts.setV {base k T : Nat} {Fs : List FrD} {rows : List (List Value)} (h : FrOuts w base Fs rows) (hT : Typ w k T) (hn : T ≠ 33 ∧ T ≠ 57) (o : Nat) (u : Value) : FrOuts (w.setCell ⟨k, o, none⟩ u) base Fs rows :=
  ⟨h.1, fun i F hF => by obtain ⟨c, hc, hf⟩ := h.2 i F hF; exact ⟨c, hc, hf.setV hT hn o u⟩⟩
theorem Out.low {base base' : Nat} {v : Value} {l : List CD} (h : Out B w base v l) (hb : base' ≤ base) : Out B w base' v l := by
  obtain ⟨inner, h1, h2⟩ := h
  exact ⟨inner, own_low h1 hb, h2⟩
theorem Out.set {base k : Nat} {v : Value} {l : List CD} (h : Out B w base v l) (hk : k < base) (hf : Typ w k 44) (hB : B ≤ k) (o : Nat) (u : Value) : Out B (w.setCell ⟨k, o, none⟩ u) base v l := by
  obtain ⟨inner, h1, h2⟩ := h
  exact ⟨inner, own_set h1 hk o u, h2.move (Fr.set (T := 44) _ hf (by decide) (by decide) hB)⟩
set_option maxHeartbeats 3200000 in
set_option maxRecDepth 100000 in
theorem all_c (h : Sta B w D hs L i G P) (hP : P.ok) : Calls Try.prog 18 #[ptr G.at_] w fun e w' => ∃ v, e = .returned v ∧ Below w.heap.size w w' ∧ ViewO B w' w.heap.size v P := by
  have hbW : Below w.heap.size w (w.alloc (.cells #[.int .i64 0, .int .i64 0, .int .i64 0, .slice none 0 0, .slice none 0 0, .int .i64 0, .slice none 0 0, .slice none 0 0, .int .i64 0, .slice none 0 0, .slice none 0 0, .slice none 0 0] 44)) := (Below.refl _ _).alloc (Nat.le_refl _) _
  have r1 := heap_alloc_new w (.cells #[.int .i64 0, .int .i64 0, .int .i64 0, .slice none 0 0, .slice none 0 0, .int .i64 0, .slice none 0 0, .slice none 0 0, .int .i64 0, .slice none 0 0, .slice none 0 0, .slice none 0 0] 44)
  have l1 : w.heap.size < (w.alloc (.cells #[.int .i64 0, .int .i64 0, .int .i64 0, .slice none 0 0, .slice none 0 0, .int .i64 0, .slice none 0 0, .slice none 0 0, .int .i64 0, .slice none 0 0, .slice none 0 0, .slice none 0 0] 44)).heap.size := by go_size
  have H := hid (h.below hbW)
  have HB := hid hbW
  have hB : B ≤ w.heap.size := Nat.le_trans h.ok.base (Nat.le_of_lt (h.ok.foot_lt (.inl rfl)).1)
  clear hbW
  unfold ptr
  go_enter Try.func18, Try.ntmps18
  go_upto_region 3 with fail
  generalize (w.alloc (.cells #[.int .i64 0, .int .i64 0, .int .i64 0, .slice none 0 0, .slice none 0 0, .int .i64 0, .slice none 0 0, .slice none 0 0, .int .i64 0, .slice none 0 0, .slice none 0 0, .slice none 0 0] 44)) = W at H HB r1 l1 ⊢
  obtain ⟨Af, pf, ef⟩ := H.out.ok.fr.slice
  obtain ⟨Aj, pj, ej⟩ := H.out.ok.jobs.slice
  obtain ⟨Ao, po, eo⟩ := H.out.ok.outs.slice
  rw [H.out.ok.len] at ef
  rw [List.length_map] at ej eo
  have c1 := H.out.ok.c (k := 1) (u := .int .i64 P.status) (by rfl)
  have c2 := H.out.ok.c (k := 2) (u := .int .i64 0) (by rfl)
  have c3 := H.out.ok.c (k := 3) (u := .int .i64 0) (by rfl)
  have c4 := H.out.ok.c (k := 4) (u := .slice none 0 0) (by rfl)
  have c5 := H.out.ok.c (k := 5) (u := .slice Af P.frames.length pf) (by rw [← ef]; rfl)
  have c6 := H.out.ok.c (k := 6) (u := .int .i64 0) (by rfl)
  have c7 := H.out.ok.c (k := 7) (u := .slice Aj P.jobs.length pj) (by rw [← ej]; rfl)
  have c8 := H.out.ok.c (k := 8) (u := .slice none 0 0) (by rfl)
  have c9 := H.out.ok.c (k := 9) (u := .int .i64 0) (by rfl)
  have c10 := H.out.ok.c (k := 10) (u := .slice none 0 0) (by rfl)
  have c11 := H.out.ok.c (k := 11) (u := .slice none 0 0) (by rfl)
  have c12 := H.out.ok.c (k := 12) (u := .slice Ao P.outs.length po) (by rw [← eo]; rfl)
  have hfr := H.out.ok.fr.here
  have hfs := H.out.ok.framesHere
  have hjs := H.out.ok.jobs.here
  have hos := H.out.ok.outs.here
  rw [ef] at hfr
  rw [ej] at hjs
  rw [eo] at hos
  have HFr := hid hfr
  have HFs := hid hfs
  have HJs := hid hjs
  have HOs := hid hos
  have R1 := hid r1
  clear hfr hfs hjs hos ef ej eo r1
  go_wp2_with fail
  refine (view_c (B := here W) HFr.out HFs.out HJs.out HOs.out hP.frames hP.jobs hP.outs hP.rows).mono ?_
  rintro e w2 ⟨A1, n1, p1, A2, n2, p2, A3, n3, p3, rows', rfl, hb2, hr1, hr2, hr3, hr4⟩
  have hb3 := (Below.refl w2.heap.size w2).alloc (Nat.le_refl _) (.cells #[.int .i64 P.status, .int .i64 0, .int .i64 0, .slice none 0 0, .slice A1 n1 p1, .int .i64 0, .slice A2 n2 p2, .slice none 0 0, .int .i64 0, .slice none 0 0, .slice none 0 0, .slice A3 n3 p3] 44)
  have r3 := heap_alloc_new w2 (.cells #[.int .i64 P.status, .int .i64 0, .int .i64 0, .slice none 0 0, .slice A1 n1 p1, .int .i64 0, .slice A2 n2 p2, .slice none 0 0, .int .i64 0, .slice none 0 0, .slice none 0 0, .slice A3 n3 p3] 44)
  have l3 : w2.heap.size < (w2.alloc (.cells #[.int .i64 P.status, .int .i64 0, .int .i64 0, .slice none 0 0, .slice A1 n1 p1, .int .i64 0, .slice A2 n2 p2, .slice none 0 0, .int .i64 0, .slice none 0 0, .slice none 0 0, .slice A3 n3 p3] 44)).heap.size := by go_size
  have s2 := hb2.size
  have HB3 := hid (HB.out.trans ((hb2.trans (hb3.mono s2)).mono (Nat.le_of_lt l1)))
  have H3 := hid (H.out.below (hb2.trans (hb3.mono s2)))
  have R1' := hid ((hb3.block _ (Nat.lt_of_lt_of_le l1 s2)).trans ((hb2.block _ l1).trans R1.out))
  have Q1 := hid (hr1.below hb3)
  have Q2 := hid (hr2.below hb3)
  have Q3 := hid (hr3.below hb3)
  have Q4 := hid (hr4.below hb3)
  have L2 := hid (show w.heap.size < w2.heap.size by omega)
  go_upto_region 4 with fail
  clear hb2 hb3 hr1 hr2 hr3 hr4 s2 c1 c2 c3 c4 c5 c6 c7 c8 c9 c10 c11 c12
  generalize (w2.alloc (.cells #[.int .i64 P.status, .int .i64 0, .int .i64 0, .slice none 0 0, .slice A1 n1 p1, .int .i64 0, .slice A2 n2 p2, .slice none 0 0, .int .i64 0, .slice none 0 0, .slice none 0 0, .slice A3 n3 p3] 44)) = W3 at HB3 H3 R1' Q1 Q2 Q3 Q4 r3 l3 ⊢
  generalize w2.heap.size = b3 at r3 l3 L2 ⊢
  have c0 := H3.out.ok.c (k := 0) (u := ptr G.hp) rfl
  unfold ptr at c0
  have R3 := hid r3
  clear r3
  go_wp2_with fail
  have hW3 : B ≤ W3.heap.size := Nat.le_trans hB HB3.out.size
  refine (H3.out.h.cells hW3 H3.out.hp H3.out.cells hP.cells).mono ?_
  rintro e w4 ⟨vc, rfl, hb4, ho4⟩
  obtain ⟨Ac, pc, rfl, _, _⟩ := ho4.slice
  have q3 := (hb4.block _ l3).trans R3.out
  have q1 := (hb4.block _ (Nat.lt_trans L2.out l3)).trans R1'.out
  have a3 := (cell_of_row _ _ 3 _ _ _ q3).trans (b := some (Value.slice none 0 0)) rfl
  have f3 : w4.frozen? ⟨b3, 3, none⟩ = false := by simp [World.frozen?, q3]
  go_upto_region 5 with fail
  have hb5 : Below w.heap.size w (w4.setCell ⟨b3, 3, none⟩ (.slice Ac P.cells.length pc)) := (HB3.out.trans (hb4.mono HB3.out.size)).setCell (Nat.le_of_lt L2.out) _
  have t3 : (w4.setCell ⟨b3, 3, none⟩ (.slice Ac P.cells.length pc)).heap[b3]? = some (.cells #[.int .i64 P.status, .int .i64 0, .int .i64 0, .slice Ac P.cells.length pc, .slice A1 n1 p1, .int .i64 0, .slice A2 n2 p2, .slice none 0 0, .int .i64 0, .slice none 0 0, .slice none 0 0, .slice A3 n3 p3] 44 (0, 0)) := (set_at q3 _).trans rfl
  have t1 : (w4.setCell ⟨b3, 3, none⟩ (.slice Ac P.cells.length pc)).heap[w.heap.size]? = some (.cells #[.int .i64 0, .int .i64 0, .int .i64 0, .slice none 0 0, .slice none 0 0, .int .i64 0, .slice none 0 0, .slice none 0 0, .int .i64 0, .slice none 0 0, .slice none 0 0, .slice none 0 0] 44 (0, 0)) := (set_ne _ (Nat.ne_of_lt L2.out)).trans q1
  have hne : ∀ T k, Typ w4 k T → T ≠ 44 → k ≠ b3 := fun T k ht h1 e => by subst e; exact h1 (ht.uniq (Typ.of q3))
  have X1 := hid (ROut.stay (w' := w4.setCell ⟨b3, 3, none⟩ (.slice Ac P.cells.length pc)) (Q1.out.below hb4) (fun k hk => set_ne _ (hne _ k (own_typ (Q1.out.below hb4) hk).1 (by decide))))
  have X2 := hid ((Q2.out.below hb4).setV (T := 44) (Typ.of q3) (by decide) 3 (.slice Ac P.cells.length pc))
  have X3 := hid (ROut.stay (w' := w4.setCell ⟨b3, 3, none⟩ (.slice Ac P.cells.length pc)) (Q3.out.below hb4) (fun k hk => set_ne _ (hne _ k (own_typ (Q3.out.below hb4) hk).1 (by decide))))
  have X4 := hid (ROut.stay (w' := w4.setCell ⟨b3, 3, none⟩ (.slice Ac P.cells.length pc)) (Q4.out.below hb4) (fun k hk => set_ne _ (hne _ k (own_typ (Q4.out.below hb4) hk).1 (by decide))))
  have XC := hid ((ho4.set l3 (Typ.of q3) (Nat.le_trans hB (Nat.le_of_lt L2.out)) 3 (.slice Ac P.cells.length pc)))
  have HB5 := hid hb5
  have T1 := hid t1
  have T3 := hid t3
  have LW := hid (show w.heap.size + 1 ≤ W3.heap.size by have := L2.out; omega)
  clear hb4 ho4 q3 q1 a3 f3 hb5 t3 t1 hne c0 Q1 Q2 Q3 Q4 HB3 R1' R3
  generalize (w4.setCell ⟨b3, 3, none⟩ (.slice Ac P.cells.length pc)) = W5 at X1 X2 X3 X4 XC HB5 T1 T3 ⊢
  have a0 := (cell_of_row _ _ 0 _ _ _ T3.out).trans (b := some (Value.int .i64 P.status)) rfl
  have a1 := (cell_of_row _ _ 1 _ _ _ T3.out).trans (b := some (Value.int .i64 0)) rfl
  have a2 := (cell_of_row _ _ 2 _ _ _ T3.out).trans (b := some (Value.int .i64 0)) rfl
  have a3 := (cell_of_row _ _ 3 _ _ _ T3.out).trans (b := some (Value.slice Ac P.cells.length pc)) rfl
  have a4 := (cell_of_row _ _ 4 _ _ _ T3.out).trans (b := some (Value.slice A1 n1 p1)) rfl
  have a5 := (cell_of_row _ _ 5 _ _ _ T3.out).trans (b := some (Value.int .i64 0)) rfl
  have a6 := (cell_of_row _ _ 6 _ _ _ T3.out).trans (b := some (Value.slice A2 n2 p2)) rfl
  have a7 := (cell_of_row _ _ 7 _ _ _ T3.out).trans (b := some (Value.slice none 0 0)) rfl
  have a8 := (cell_of_row _ _ 8 _ _ _ T3.out).trans (b := some (Value.int .i64 0)) rfl
  have a9 := (cell_of_row _ _ 9 _ _ _ T3.out).trans (b := some (Value.slice none 0 0)) rfl
  have a10 := (cell_of_row _ _ 10 _ _ _ T3.out).trans (b := some (Value.slice none 0 0)) rfl
  have a11 := (cell_of_row _ _ 11 _ _ _ T3.out).trans (b := some (Value.slice A3 n3 p3)) rfl
  have z0 := (cell_of_row _ _ 0 _ _ _ T1.out).trans (b := some (Value.int .i64 0)) rfl
  have z1 := (cell_of_row _ _ 1 _ _ _ T1.out).trans (b := some (Value.int .i64 0)) rfl
  have z2 := (cell_of_row _ _ 2 _ _ _ T1.out).trans (b := some (Value.int .i64 0)) rfl
  have z3 := (cell_of_row _ _ 3 _ _ _ T1.out).trans (b := some (Value.slice none 0 0)) rfl
  have z4 := (cell_of_row _ _ 4 _ _ _ T1.out).trans (b := some (Value.slice none 0 0)) rfl
  have z5 := (cell_of_row _ _ 5 _ _ _ T1.out).trans (b := some (Value.int .i64 0)) rfl
  have z6 := (cell_of_row _ _ 6 _ _ _ T1.out).trans (b := some (Value.slice none 0 0)) rfl
  have z7 := (cell_of_row _ _ 7 _ _ _ T1.out).trans (b := some (Value.slice none 0 0)) rfl
  have z8 := (cell_of_row _ _ 8 _ _ _ T1.out).trans (b := some (Value.int .i64 0)) rfl
  have z9 := (cell_of_row _ _ 9 _ _ _ T1.out).trans (b := some (Value.slice none 0 0)) rfl
  have z10 := (cell_of_row _ _ 10 _ _ _ T1.out).trans (b := some (Value.slice none 0 0)) rfl
  have z11 := (cell_of_row _ _ 11 _ _ _ T1.out).trans (b := some (Value.slice none 0 0)) rfl
  have g0 : W5.frozen? ⟨w.heap.size, 0, none⟩ = false := by simp [World.frozen?, T1.out]
  have g1 : W5.frozen? ⟨w.heap.size, 1, none⟩ = false := by simp [World.frozen?, T1.out]
  have g2 : W5.frozen? ⟨w.heap.size, 2, none⟩ = false := by simp [World.frozen?, T1.out]
  have g3 : W5.frozen? ⟨w.heap.size, 3, none⟩ = false := by simp [World.frozen?, T1.out]
  have g4 : W5.frozen? ⟨w.heap.size, 4, none⟩ = false := by simp [World.frozen?, T1.out]
  have g5 : W5.frozen? ⟨w.heap.size, 5, none⟩ = false := by simp [World.frozen?, T1.out]
  have g6 : W5.frozen? ⟨w.heap.size, 6, none⟩ = false := by simp [World.frozen?, T1.out]
  have g7 : W5.frozen? ⟨w.heap.size, 7, none⟩ = false := by simp [World.frozen?, T1.out]
  have g8 : W5.frozen? ⟨w.heap.size, 8, none⟩ = false := by simp [World.frozen?, T1.out]
  have g9 : W5.frozen? ⟨w.heap.size, 9, none⟩ = false := by simp [World.frozen?, T1.out]
  have g10 : W5.frozen? ⟨w.heap.size, 10, none⟩ = false := by simp [World.frozen?, T1.out]
  have g11 : W5.frozen? ⟨w.heap.size, 11, none⟩ = false := by simp [World.frozen?, T1.out]
  have hw3 : w.heap.size < w.heap.size + 1 := Nat.lt_succ_self _
  have hw4 : w.heap.size < W3.heap.size := LW.out
  go_wp2_with fail
  refine bodyPost_ret (v := .agg #[.int .i64 P.status, .int .i64 0, .int .i64 0, .slice Ac P.cells.length pc, .slice A1 n1 p1, .int .i64 0, .slice A2 n2 p2, .slice none 0 0, .int .i64 0, .slice none 0 0, .slice none 0 0, .slice A3 n3 p3]) (by simp [results, Try.results18, go_sem, z0, z1, z2, z3, z4, z5, z6, z7, z8, z9, z10, z11]) rfl ⟨_, rfl, ?_, _, _, _, _, _, _, _, _, _, _, _, _, rows', rfl, ?_, ?_, ?_, ?_, ?_⟩
  · exact ((((((((((((HB5.out).setCell (Nat.le_refl _) _).setCell (Nat.le_refl _) _).setCell (Nat.le_refl _) _).setCell (Nat.le_refl _) _).setCell (Nat.le_refl _) _).setCell (Nat.le_refl _) _).setCell (Nat.le_refl _) _).setCell (Nat.le_refl _) _).setCell (Nat.le_refl _) _).setCell (Nat.le_refl _) _).setCell (Nat.le_refl _) _).setCell (Nat.le_refl _) _
  · exact Out.low (((((((((((((XC.out).set hw4 (Typ.of T1.out) hB _ _).set hw4 ((Typ.of T1.out).set _ _) hB _ _).set hw4 (((Typ.of T1.out).set _ _).set _ _) hB _ _).set hw4 ((((Typ.of T1.out).set _ _).set _ _).set _ _) hB _ _).set hw4 (((((Typ.of T1.out).set _ _).set _ _).set _ _).set _ _) hB _ _).set hw4 ((((((Typ.of T1.out).set _ _).set _ _).set _ _).set _ _).set _ _) hB _ _).set hw4 (((((((Typ.of T1.out).set _ _).set _ _).set _ _).set _ _).set _ _).set _ _) hB _ _).set hw4 ((((((((Typ.of T1.out).set _ _).set _ _).set _ _).set _ _).set _ _).set _ _).set _ _) hB _ _).set hw4 (((((((((Typ.of T1.out).set _ _).set _ _).set _ _).set _ _).set _ _).set _ _).set _ _).set _ _) hB _ _).set hw4 ((((((((((Typ.of T1.out).set _ _).set _ _).set _ _).set _ _).set _ _).set _ _).set _ _).set _ _).set _ _) hB _ _).set hw4 (((((((((((Typ.of T1.out).set _ _).set _ _).set _ _).set _ _).set _ _).set _ _).set _ _).set _ _).set _ _).set _ _) hB _ _).set hw4 ((((((((((((Typ.of T1.out).set _ _).set _ _).set _ _).set _ _).set _ _).set _ _).set _ _).set _ _).set _ _).set _ _).set _ _) hB _ _) (Nat.le_of_lt hw4)
  · exact ROut.low ((((((((((((((ROut.low X1.out (show w.heap.size + 1 ≤ W.heap.size + 2 by omega))).set hw3 _ _).set hw3 _ _).set hw3 _ _).set hw3 _ _).set hw3 _ _).set hw3 _ _).set hw3 _ _).set hw3 _ _).set hw3 _ _).set hw3 _ _).set hw3 _ _).set hw3 _ _) (Nat.le_succ _)
  · exact FrOuts.low ((((((((((((((FrOuts.low X2.out (show w.heap.size + 1 ≤ W.heap.size + 2 by omega))).set hw3 _ _).set hw3 _ _).set hw3 _ _).set hw3 _ _).set hw3 _ _).set hw3 _ _).set hw3 _ _).set hw3 _ _).set hw3 _ _).set hw3 _ _).set hw3 _ _).set hw3 _ _) (Nat.le_succ _)
  · exact ROut.low ((((((((((((((ROut.low X3.out (show w.heap.size + 1 ≤ W.heap.size + 2 by omega))).set hw3 _ _).set hw3 _ _).set hw3 _ _).set hw3 _ _).set hw3 _ _).set hw3 _ _).set hw3 _ _).set hw3 _ _).set hw3 _ _).set hw3 _ _).set hw3 _ _).set hw3 _ _) (Nat.le_succ _)
  · exact ROut.low ((((((((((((((ROut.low X4.out (show w.heap.size + 1 ≤ W.heap.size + 2 by omega))).set hw3 _ _).set hw3 _ _).set hw3 _ _).set hw3 _ _).set hw3 _ _).set hw3 _ _).set hw3 _ _).set hw3 _ _).set hw3 _ _).set hw3 _ _).set hw3 _ _).set hw3 _ _) (Nat.le_succ _)
end
end Go.Proofs.Ytdgpblhmfkpblaa.Pg
