/- ScopeForms. -/
import Derived.Test.YticbjhicjegfoaaSm
import Derived.Test.YticbjhicjegfoaaQU
namespace Go.Proofs.Yticbjhicjegfoaa.Q
open Go.RowKit
open Go.Proofs.YticbjhicjegfoaaW.PrintWords

def formsSrc : List ByteArray := formsL.map fun x => x.1
def formsNam : List ByteArray := formsL.map fun x => x.2.1
def formsSpt : List Sp := formsL.map fun x => ⟨x.2.2.1, x.2.2.2⟩
theorem lastF_succ (l : List Nd) (sp : List Sp) (name : ByteArray) (i : Nat) (n : Nd) (p : Sp) (h1 : l[i]? = some n) (h2 : sp[i]? = some p) : lastF l sp name (i + 1) = if decide (n.kind = 3) && beqB n.text name then p else lastF l sp name i := by
  rw [lastF, h1, h2]
set_option maxHeartbeats 3200000 in
set_option maxRecDepth 100000 in
theorem forms_law (w : World) (n : Int) (hn0 : 0 ≤ n) (hn1 : n ≤ 255) : Calls Try.prog 6 #[.int .u8 n] w fun e w' => e = .returned (.bool true) ∧ Below w.heap.size w w' := by
  have y0 : n.tmod 7 = n % 7 := Int.tmod_eq_emod_of_nonneg hn0
  obtain ⟨k, hk7, hk⟩ : ∃ k : Nat, k < 7 ∧ n % 7 = (k : Int) := ⟨(n % 7).toNat, by omega, by omega⟩
  obtain ⟨x, hx⟩ : ∃ x, formsL[k]? = some x := ⟨_, List.getElem?_eq_getElem hk7⟩
  obtain ⟨T, S, p1, p2, p3, p4, p5, p6⟩ := chk_get (List.all_eq_true.1 forms_ok x (List.mem_of_getElem? hx))
  have hln := (looked_lens p2).1
  rw [hk] at y0
  have hW : ∃ W : World, W = (((w.alloc (.cells (formsSrc.map Value.string).toArray 9)).alloc (.cells (formsNam.map Value.string).toArray 9)).alloc (.cells (spCells formsSpt).toArray 40)) := ⟨_, rfl⟩
  obtain ⟨W, hW⟩ := hW
  have hb : Below w.heap.size w W := by
    rw [hW]; exact (((Below.refl _ _).alloc (Nat.le_refl _) _).alloc (by simp) _).alloc (by simp; omega) _
  have r1 : W.heap[w.heap.size]? = some (.cells (formsSrc.map Value.string).toArray 9 (0, 0)) := by
    rw [hW]; exact (heap_alloc_old _ _ (by simp; omega)).trans ((heap_alloc_old _ _ (by simp)).trans (heap_alloc_new _ _))
  have r2 : W.heap[w.heap.size + 1]? = some (.cells (formsNam.map Value.string).toArray 9 (0, 0)) := by
    rw [hW]
    refine (heap_alloc_old _ _ (by simp)).trans ?_
    have := heap_alloc_new (w.alloc (.cells (formsSrc.map Value.string).toArray 9)) (.cells (formsNam.map Value.string).toArray 9)
    simpa using this
  have r3 : W.heap[w.heap.size + 1 + 1]? = some (.cells (spCells formsSpt).toArray 40 (0, 0)) := by
    rw [hW]
    have := heap_alloc_new ((w.alloc (.cells (formsSrc.map Value.string).toArray 9)).alloc (.cells (formsNam.map Value.string).toArray 9)) (.cells (spCells formsSpt).toArray 40)
    have hz : ((w.alloc (.cells (formsSrc.map Value.string).toArray 9)).alloc (.cells (formsNam.map Value.string).toArray 9)).heap.size = w.heap.size + 1 + 1 := by simp
    rw [hz] at this
    exact this
  have q1 : W.cell? ⟨w.heap.size, k, none⟩ = some (.string x.1) := (cell_of_row _ _ _ _ _ _ r1).trans (by simp [formsSrc, hx])
  have q2 : W.cell? ⟨w.heap.size + 1, k, none⟩ = some (.string x.2.1) := (cell_of_row _ _ _ _ _ _ r2).trans (by simp [formsNam, hx])
  have hsp : formsSpt[k]? = some ⟨x.2.2.1, x.2.2.2⟩ := by simp [formsSpt, hx]
  have q3 : W.cell? ⟨w.heap.size + 1 + 1, k * 2, none⟩ = some (.int .i64 x.2.2.1) := (cell_of_row _ _ _ _ _ _ r3).trans (by simpa using (spCells_at hsp).1)
  have q4 : W.cell? ⟨w.heap.size + 1 + 1, k * 2 + 1, none⟩ = some (.int .i64 x.2.2.2) := (cell_of_row _ _ _ _ _ _ r3).trans (by simpa using (spCells_at hsp).2)
  have hsz : W.heap.size = w.heap.size + 3 := by rw [hW]; simp
  have hk0 : (0 : Int) ≤ (k : Int) := by omega
  have hk7' : (k : Int) < 7 := by omega
  obtain ⟨src, nm, dd, ss⟩ := x
  dsimp only at *
  have HW := hid hW
  have HQ := hid (And.intro q2 (And.intro q3 q4))
  have HPA := hid (parse_ok p1 p4)
  have HSP := hid (fun (w : World) (okl : Nat → Prop) (g cap : Nat) (h : NR w okl g cap T.l) (hlo : ∀ k, okl k → k < w.heap.size) => spots_c h hlo p5 p4 p2)
  have HLN := hid hln
  have HP3 := hid p3
  have HP6 := hid p6
  have HB := hid hb
  have HSZ := hid hsz
  have hp5 : (T.l.length : Int) ≤ 1048576 := by omega
  clear hx hW r1 r2 r3 q2 q3 q4 hsp p1 p2 p3 p4 hln p6 hk hb hsz
  go_enter Try.func6, Try.ntmps6
  go_upto_region 5 with fail
  have hcw : ∀ {P : Program} {c : Code} {Q : Exit → Act → World → Prop} {a : Act}, Code.wp P c Q a W → Code.wp P c Q a (((w.alloc (.cells (formsSrc.map Value.string).toArray 9)).alloc (.cells (formsNam.map Value.string).toArray 9)).alloc (.cells (spCells formsSpt).toArray 40)) := by
    intro P c Q a h; rw [← HW.out]; exact h
  refine hcw ?_
  clear hcw HW
  go_wp2_with fail
  refine (HPA.out W).mono ?_
  rintro e w1 ⟨okl, g, cap, rfl, hN, hn, hb1⟩
  have hT := heap_alloc_new w1 (.cells #[.slice (some ⟨g, 0, none⟩) T.l.length cap, .int .i64 T.at_, .bool T.ok] 31)
  have hb2 := (Below.refl w1.heap.size w1).alloc (Nat.le_refl _) (.cells #[.slice (some ⟨g, 0, none⟩) T.l.length cap, .int .i64 T.at_, .bool T.ok] 31)
  have a0 := (cell_of_row _ _ 0 _ _ _ hT).trans (b := some (Value.slice (some ⟨g, 0, none⟩) T.l.length cap)) rfl
  have HT := hid hT
  have HN := hid (hN.below hb2)
  have HNN := hid (show ∀ k, okl k → k < (w1.alloc (.cells #[.slice (some ⟨g, 0, none⟩) T.l.length cap, .int .i64 T.at_, .bool T.ok] 31)).heap.size from fun k hk => by have := (hn k hk).2; simp; omega)
  have HB2 := hid (hb1.trans (hb2.mono hb1.size))
  have h17 : w1.heap.size < (w1.alloc (.cells #[.slice (some ⟨g, 0, none⟩) T.l.length cap, .int .i64 T.at_, .bool T.ok] 31)).heap.size := by simp
  have hle1 : W.heap.size ≤ w1.heap.size := hb1.size
  clear hT hN hn hb1 hb2 HPA
  go_upto_region 6 with fail
  generalize (w1.alloc (.cells #[.slice (some ⟨g, 0, none⟩) T.l.length cap, .int .i64 T.at_, .bool T.ok] 31)) = W2 at *
  go_wp2_with fail
  refine (HSP.out W2 okl g cap HN.out HNN.out).mono ?_
  rintro e w3 ⟨b, rfl, hc, hb3, hle3⟩
  have hT := (hb3.block w1.heap.size h17).trans HT.out
  have hN := HN.out.below hb3
  have hbb := HB2.out.trans (hb3.mono HB2.out.size)
  obtain ⟨Z, hZ⟩ : ∃ Z, Z = (w3.alloc (.cells #[.int .i64 (-5), .int .i64 0] 40)) := ⟨_, rfl⟩
  have hbz : Below w3.heap.size w3 Z := by rw [hZ]; exact (Below.refl _ _).alloc (Nat.le_refl _) _
  have h9 : Z.heap[w3.heap.size]? = some (.cells #[.int .i64 (-5), .int .i64 0] 40 (0, 0)) := by rw [hZ]; exact heap_alloc_new _ _
  have hblt : b < w3.heap.size := (Array.getElem?_eq_some_iff.1 hc).1
  have hTlt : w1.heap.size < w3.heap.size := (Array.getElem?_eq_some_iff.1 hT).1
  have HTz := hid ((hbz.block _ hTlt).trans hT)
  have HCz := hid ((hbz.block _ hblt).trans hc)
  have HNz := hid (hN.below hbz)
  have HBz := hid (hbb.trans (hbz.mono hbb.size))
  have H9 := hid h9
  have HLT := hid (And.intro hblt hTlt)
  have HZ := hid hZ
  have HNok := hid (show ∀ k, okl k → k < w3.heap.size from fun k hk => Nat.lt_of_lt_of_le (HNN.out k hk) hb3.size)
  have a0' := (cell_of_row _ _ 0 _ _ _ hT).trans (b := some (Value.slice (some ⟨g, 0, none⟩) T.l.length cap)) rfl
  have a2' := (cell_of_row _ _ 2 _ _ _ hT).trans (c := some (Value.bool true)) (by rw [HP3.out]; rfl)
  have hW3 : W.heap.size ≤ w3.heap.size := hbb.size
  clear hc hb3 hle3 hT hN hbb hbz h9 HSP HN HNN HB2 HT hZ hblt hTlt a0
  go_upto_region 10 with fail
  have hcw : ∀ {P : Program} {c : Code} {Q : Exit → Act → World → Prop} {a : Act}, Code.wp P c Q a Z → Code.wp P c Q a (w3.alloc (.cells #[.int .i64 (-5), .int .i64 0] 40)) := by
    intro P c Q a h; rw [← HZ.out]; exact h
  refine hcw ?_
  clear hcw HZ a0' a2'
  go_wp2_with fail
  go_loopw [10] (fun x wx => ∃ i : Nat, i ≤ T.l.length ∧ x = .int .i64 i ∧ Box (wx.heap[w3.heap.size]? = some (.cells #[.int .i64 (lastF T.l S.spots nm i).depth, .int .i64 (lastF T.l S.spots nm i).slot] 40 (0, 0))) ∧ Box (Kp (fun k => k = w3.heap.size) Z wx)) (fun x _ => T.l.length - (RowKit.intOf x).toNat)
  case atStart => exact ⟨0, Nat.zero_le _, rfl, H9, hid (Kp.refl _ _)⟩
  case round =>
    clear H9
    obtain ⟨i, hi, rfl, H9, HK⟩ := hrel
    have hneT : w1.heap.size ≠ w3.heap.size := Nat.ne_of_lt HLT.out.2
    have hneb : b ≠ w3.heap.size := Nat.ne_of_lt HLT.out.1
    have hT := HK.out.heap HTz.out hneT
    have a0 := (cell_of_row _ _ 0 _ _ _ hT).trans (b := some (Value.slice (some ⟨g, 0, none⟩) T.l.length cap)) rfl
    have d0 := (cell_of_row _ _ 0 _ _ _ H9.out).trans (b := some (Value.int .i64 (lastF T.l S.spots nm i).depth)) rfl
    have d1 := (cell_of_row _ _ 1 _ _ _ H9.out).trans (b := some (Value.int .i64 (lastF T.l S.spots nm i).slot)) rfl
    have e0 : wr.frozen? ⟨w3.heap.size, 0, none⟩ = false := by simp [World.frozen?, H9.out]
    have e1 : wr.frozen? ⟨w3.heap.size, 1, none⟩ = false := by simp [World.frozen?, H9.out]
    have hZr : ∀ p : Addr, p.block < W.heap.size → wr.cell? p = W.cell? p := fun p hp => by
      have h1 : wr.heap[p.block]? = Z.heap[p.block]? := HK.out.block _ (by have := HBz.out.size; omega) (by omega)
      exact (World.cell?_of_block (w := Z) h1).trans (HBz.out.cell hp)
    have hsz := HSZ.out
    have q2 := (hZr ⟨w.heap.size + 1, k, none⟩ (by show w.heap.size + 1 < _; omega)).trans HQ.out.1
    have q3 := (hZr ⟨w.heap.size + 1 + 1, k * 2, none⟩ (by show w.heap.size + 1 + 1 < _; omega)).trans HQ.out.2.1
    have q4 := (hZr ⟨w.heap.size + 1 + 1, k * 2 + 1, none⟩ (by show w.heap.size + 1 + 1 < _; omega)).trans HQ.out.2.2
    have hbel : Below w.heap.size w wr := ⟨HK.out.os.trans ((HB.out.trans (HBz.out.mono (by omega))).os), HK.out.tape.trans ((HB.out.trans (HBz.out.mono (by omega))).tape), HK.out.output.trans ((HB.out.trans (HBz.out.mono (by omega))).output), Nat.le_trans (HB.out.trans (HBz.out.mono (by omega))).size HK.out.size, fun j hj => (HK.out.block j (by have := (HB.out.trans (HBz.out.mono (by omega))).size; omega) (by omega)).trans ((HB.out.trans (HBz.out.mono (by omega))).block j hj)⟩
    have HBEL := hid hbel
    have HTr := hid hT
    clear hbel hZr hsz hT
    rcases Nat.lt_or_ge i T.l.length with hlt | hge
    · have hlt' : (i : Int) < (T.l.length : Int) := by omega
      obtain ⟨n, hn⟩ : ∃ n, T.l[i]? = some n := ⟨_, List.getElem?_eq_getElem hlt⟩
      obtain ⟨p, hp⟩ : ∃ p, S.spots[i]? = some p := ⟨_, List.getElem?_eq_getElem (by rw [HLN.out]; exact hlt)⟩
      have hNr : NR wr okl g cap T.l := Kd.N_kept HNz.out HK.out.kept (fun j hj e => by have := HNok.out j hj; omega)
      obtain ⟨A3, c3, A4, c4, _, n0, n1, n2, _⟩ := hNr.node hn
      have hcr := HK.out.heap HCz.out hneb
      have s0 := (cell_of_row _ _ (i * 2) _ _ _ hcr).trans (c := some (Value.int .i64 p.depth)) (by simpa using (spCells_at hp).1)
      have s1 := (cell_of_row _ _ (i * 2 + 1) _ _ _ hcr).trans (c := some (Value.int .i64 p.slot)) (by simpa using (spCells_at hp).2)
      have hls := lastF_succ T.l S.spots nm i n p hn hp
      have HLS := hid hls
      clear hls hNr hcr hn hp
      cases hk3 : decide (n.kind = 3)
      · have t3 : (n.kind == (3 : Int)) = false := hk3
        have HK3 := hid hk3
        clear hk3
        go_wp2_with fail
        go_quiet (fail)
        go_wp2_with fail
        go_roundw
        case rel => exact ⟨i + 1, by omega, by go_num, hid (by rw [HLS.out, HK3.out]; exact H9.out), hid (HK.out.below (pw_below_drewN (Below.refl _ _) _))⟩
        case measure => simp [RowKit.intOf]; omega
      · have t3 : (n.kind == (3 : Int)) = true := hk3
        have HK3 := hid hk3
        clear hk3
        cases hb : beqB n.text nm
        · have tq : (n.text.toList == nm.toList) = false := by rw [toList_beq]; exact hb
          have HBB := hid hb
          clear hb
          go_wp2_with fail
          go_quiet (fail)
          go_wp2_with fail
          go_roundw
          case rel => exact ⟨i + 1, by omega, by go_num, hid (by rw [HLS.out, HK3.out, HBB.out]; exact H9.out), hid (HK.out.below (pw_below_drewN (Below.refl _ _) _))⟩
          case measure => simp [RowKit.intOf]; omega
        · have tq : (n.text.toList == nm.toList) = true := by rw [toList_beq]; exact hb
          have HBB := hid hb
          clear hb
          go_wp2_with fail
          go_quiet (fail)
          go_wp2_with fail
          go_roundw
          case rel =>
            refine ⟨i + 1, by omega, by go_num, hid ?_, hid (((HK.out.below (pw_below_drewN (Below.refl _ _) _)).trans (Kp.set (K := fun k => k = w3.heap.size) (p := ⟨w3.heap.size, 0, none⟩) _ rfl) (fun _ h => .inl h)).trans (Kp.set (K := fun k => k = w3.heap.size) (p := ⟨w3.heap.size, 1, none⟩) _ rfl) (fun _ h => .inl h))⟩
            rw [HLS.out, HK3.out, HBB.out]
            exact blk_put (blk_put (show (wr.drewN nq).heap[w3.heap.size]? = _ from H9.out) 0 (.int .i64 p.depth) rfl) 1 (.int .i64 p.slot) rfl
          case measure => simp [RowKit.intOf]; omega
    · obtain rfl : i = T.l.length := by omega
      have h6 := HP6.out
      unfold Sp.is at h6
      simp only [Bool.and_eq_true, decide_eq_true_eq] at h6
      rw [h6.1] at d0
      rw [h6.2] at d1
      clear h6 H9
      have u0 := ov_cell (cell_lt d0) d0
      have u1 := ov_cell (cell_lt d1) d1
      have u3 := ov_cell (cell_lt q3) q3
      have u4 := ov_cell (cell_lt q4) q4
      clear q2 e0 e1
      go_wp2_with fail
      clear d0 d1 q3 q4 a0
      refine wp_region_over_lit (by kernel_rfl) (by kernel_rfl) ?_
      repeat (first
        | go_big_quiet_step ((go_at_call 13; exact calls_over (awake_c _))))
      refine wpQuiet_nil ?_
      intro W' hW'
      obtain ⟨x, rfl⟩ := hW'
      go_wp2
      go_ret
      exact ⟨rfl, HBEL.out.trans ((ov_below x).mono HBEL.out.size)⟩
end Go.Proofs.Yticbjhicjegfoaa.Q
