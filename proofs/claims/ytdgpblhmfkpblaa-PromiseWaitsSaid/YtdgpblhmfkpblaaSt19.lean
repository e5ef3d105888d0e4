/- PromiseWaits, walked. -/
import Derived.Test.YtdgpblhmfkpblaaSt18
namespace Go.Proofs.Ytdgpblhmfkpblaa.Pg
open Go.RowKit

/-- What stands with a promise for which k wait. -/
def wv (c : Int) : Nat → List VD
  | 0 => []
  | k + 1 => wv c k ++ [numV k, ⟨1, 0, ByteArray.empty⟩, numV c]
theorem wv_length (c : Int) (k : Nat) : (wv c k).length = 3 * k := by
  induction k with
  | zero => rfl
  | succ k ih => simp only [wv, List.length_append, ih, List.length_cons, List.length_nil]; omega
theorem wv_get (c : Int) (k j : Nat) (h : j < k) : (wv c k)[3 * j]? = some (numV j) ∧ (wv c k)[3 * j + 1]? = some ⟨1, 0, ByteArray.empty⟩ ∧ (wv c k)[3 * j + 2]? = some (numV c) := by
  induction k with
  | zero => omega
  | succ k ih =>
    rcases Nat.lt_or_ge j k with hj | hj
    · obtain ⟨h0, h1, h2⟩ := ih hj
      simp only [wv]
      exact ⟨by rw [List.getElem?_append_left (by rw [wv_length]; omega)]; exact h0, by rw [List.getElem?_append_left (by rw [wv_length]; omega)]; exact h1, by rw [List.getElem?_append_left (by rw [wv_length]; omega)]; exact h2⟩
    · obtain rfl : j = k := by omega
      simp only [wv]
      refine ⟨?_, ?_, ?_⟩ <;> rw [List.getElem?_append_right (by rw [wv_length]; omega), wv_length]
      · rw [show 3 * j - 3 * j = 0 by omega]; rfl
      · rw [show 3 * j + 1 - 3 * j = 1 by omega]; rfl
      · rw [show 3 * j + 2 - 3 * j = 2 by omega]; rfl
def cw (c : Int) (k : Nat) : CD := ⟨5, 0, 0, [], wv c k⟩
def pw (c : Int) (k : Nat) : PS := { p0 with cells := [scopeC 0 [holeV], cw c k, promC] }
set_option maxHeartbeats 3200000 in
set_option maxRecDepth 100000 in
theorem waits_c (w : World) (n : Int) (hn0 : 0 ≤ n) (hn1 : n ≤ 255) (child : Bool) : Calls Try.prog 10 #[.int .u8 n, .bool child] w fun e w' => e = .returned (.bool true) ∧ Below w.heap.size w w' := by
  have y0 : n.tmod 20 = n % 20 := Int.tmod_eq_emod_of_nonneg hn0
  obtain ⟨K, hK⟩ : ∃ K : Nat, n % 20 = (K : Int) := ⟨(n % 20).toNat, by omega⟩
  have hK2 : K ≤ 20 := by omega
  go_enter Try.func10, Try.ntmps10
  go_wp2_with fail
  refine (l17state_c w).mono ?_
  rintro e w1 ⟨a, rfl, B1, D1, G1, hS1, rfl, hn1', hb1⟩
  have HS1 := hid hS1
  have HB1 := hid hb1
  have HN1 := hid hn1'
  clear hS1 hb1 hn1'
  go_wp2_with fail
  refine (makeN_c HS1.out (by decide) (n := 2) rfl).mono ?_
  rintro e w2 ⟨rfl, B2, D2, G2, hS2, hM2⟩
  have ha2 := hM2.at_
  have HB2 := hid (HB1.out.trans (hM2.low HS1.out (Nat.le_of_eq HN1.out.symm)))
  have HN2 := hid (hM2.ext.hn.trans HN1.out)
  have HS2 := hid hS2
  clear hS2 hM2 HS1 HB1 HN1
  rw [← ha2]
  clear ha2
  go_wp2_with fail
  refine (makeN_c HS2.out (by decide) (n := 3) rfl).mono ?_
  rintro e w3 ⟨rfl, B3, D3, G3, hS3, hM3⟩
  have ha3 := hM3.at_
  have HB3 := hid (HB2.out.trans (hM3.low HS2.out (Nat.le_of_eq HN2.out.symm)))
  have HN3 := hid (hM3.ext.hn.trans HN2.out)
  clear HS2 HB2 HN2
  rw [← ha3]
  clear ha3
  generalize hat : G3.at_ = a3
  cases child
  · have HS3 := hid (show St1 B3 w3 D3 G3 (pw 0 0) from hS3)
    clear hS3 hM3
    go_wp2_with (go_at_call 14; refine (err_c 0 _).mono ?_; rintro e w4 ⟨rfl, rfl⟩)
    go_loopw [12] (fun i wx => ∃ k : Nat, k ≤ K ∧ i = .int .i64 k ∧ Box (∃ B D G, St1 B wx D G (pw 0 k) ∧ G.at_ = a3 ∧ B.n = w.heap.size ∧ Below w.heap.size w wx)) (fun i _ => K - (RowKit.intOf i).toNat)
    case atStart => exact ⟨0, by omega, rfl, hid ⟨B3, D3, G3, HS3.out, hat, HN3.out, HB3.out⟩⟩
    case round =>
      clear HS3 HB3 HN3 hat
      obtain ⟨k, hk, rfl, HX⟩ := hrel
      obtain ⟨B, D, G, hS, hat, hN, hB⟩ := HX.out
      have HS := hid hS
      have HN := hid hN
      have HB := hid hB
      clear HX hS hN hB
      subst hat
      rcases Nat.lt_or_ge k K with hlt | hge
      · have hlt' : (k : Int) < K := by omega
        go_wp2_with (go_at_call 15; refine (rnumL_c k).mono ?_; rintro e w5 ⟨rfl, hb5⟩; have HS5 := hid (HS.out.below hb5); have HB5 := hid (HB.out.trans (hb5.mono HB.out.size)); clear hb5)
        refine (wait_waits HS5.out (p := 2) (by decide) (by decide) (c := cw 0 k) rfl rfl (by simp only [cw, wv_length]; omega) rfl (numV k) ⟨1, 0, ByteArray.empty⟩ 0).mono ?_
        rintro e w6 ⟨rfl, B6, D6, G6, hS6, hM6⟩
        have HX := hid (show ∃ B D G', St1 B w6 D G' (pw 0 (k + 1)) ∧ G'.at_ = G.at_ ∧ B.n = w.heap.size ∧ Below w.heap.size w w6 from ⟨B6, D6, G6, hS6, hM6.at_, hM6.ext.hn.trans HN.out, HB5.out.trans (hM6.low HS5.out (Nat.le_of_eq HN.out.symm))⟩)
        clear hS6 hM6 HS5 HB5 HS HN HB
        go_wp2_with fail
        go_roundw
        case rel => exact ⟨k + 1, by omega, by go_num, HX⟩
        case measure => simp [RowKit.intOf]; omega
      · obtain rfl : k = K := by omega
        have c0 := HS.out.ok.c (k := 0) (u := ptr G.hp) rfl
        unfold ptr at c0
        go_wp2_with fail
        have HL := hid (HS.out.h.load HS.out.le HS.out.hp HS.out.cells (k := 2) (by decide) (by decide) (c := cw 0 k) rfl)
        refine HL.out.mono ?_
        clear HL
        rintro e w7 ⟨A1, n1, p1, A2, n2, p2, rfl, hb7, hr7⟩
        have hn2 : n2 = 3 * k := by have := hr7.v.get.1; rw [List.length_map] at this; rw [← this]; exact wv_length _ _
        subst hn2
        dsimp only [cw]
        have hb8 := (Below.refl w7.heap.size w7).alloc (Nat.le_refl _) (.cells #[.int .i64 5, .int .i64 0, .int .i64 0, .slice A1 n1 p1, .slice A2 (3 * k) p2] 47)
        have r8 := heap_alloc_new w7 (.cells #[.int .i64 5, .int .i64 0, .int .i64 0, .slice A1 n1 p1, .slice A2 (3 * k) p2] 47)
        have hv8 := hr7.v.move (Fr.of_below hb8)
        have hb78 := hb7.trans (hb8.mono hb7.size)
        have HS8 := hid (HS.out.below hb78)
        have HB8 := hid (HB.out.trans (hb78.mono HB.out.size))
        go_upto_region 17 with fail
        generalize (w7.alloc (.cells #[.int .i64 5, .int .i64 0, .int .i64 0, .slice A1 n1 p1, .slice A2 (3 * k) p2] 47)) = W8 at HS8 HB8 r8 hv8 ⊢
        generalize w7.heap.size = b8 at r8 ⊢
        have R8 := hid r8
        have HV8 := hid hv8
        obtain ⟨Aj, pj, ej⟩ := HS8.out.ok.jobs.slice
        have c7 := HS8.out.ok.c (k := 7) (u := .slice Aj 0 pj) (by show some G.jsl = _; rw [ej]; rfl)
        have d0 := (cell_of_row _ _ 0 _ _ _ r8).trans (b := some (Value.int .i64 5)) rfl
        have d1 := (cell_of_row _ _ 1 _ _ _ r8).trans (b := some (Value.int .i64 0)) rfl
        have d4 := (cell_of_row _ _ 4 _ _ _ r8).trans (b := some (Value.slice A2 (3 * k) p2)) rfl
        have hw3 : IntKind.i64.wrap (3 * (k : Int)) = 3 * (k : Int) := IntWalk.i64_in _ (by omega)
        clear hb7 hr7 hb8 r8 hv8 hb78 c0 ej HS HB
        go_wp2_with (go_at_call 14; refine (err_c 0 _).mono ?_; rintro e w4 ⟨rfl, rfl⟩)
        clear c7 d0 d1 d4 HS8
        go_loopw [15] (fun i wx => ∃ j : Nat, j ≤ k ∧ i = .int .i64 j ∧ Box (Below w4.heap.size w4 wx)) (fun i _ => k - (RowKit.intOf i).toNat)
        case atStart => exact ⟨0, by omega, rfl, hid (Below.refl _ _)⟩
        case round =>
          obtain ⟨j, hj, rfl, HBr⟩ := hrel
          rcases Nat.lt_or_ge j k with hjk | hjk
          · have hjk' : (j : Int) < (k : Int) := by omega
            obtain ⟨g0, g1, g2⟩ := wv_get 0 k j hjk
            obtain ⟨bv, ov', rfl, _, hc0⟩ := HV8.out.get.2.2 (3 * j) (numV j).row (by rw [List.getElem?_map, show (cw 0 k).vals = wv 0 k from rfl, g0]; rfl)
            obtain ⟨bv', ov'', e', _, hc1⟩ := HV8.out.get.2.2 (3 * j + 1) (VD.row ⟨1, 0, ByteArray.empty⟩) (by rw [List.getElem?_map, show (cw 0 k).vals = wv 0 k from rfl, g1]; rfl)
            injection e' with e'; injection e' with ea eb; subst ea eb
            obtain ⟨bv', ov'', e', _, hc2⟩ := HV8.out.get.2.2 (3 * j + 2) (numV 0).row (by rw [List.getElem?_map, show (cw 0 k).vals = wv 0 k from rfl, g2]; rfl)
            injection e' with e'; injection e' with ea eb; subst ea eb
            have lb := block_lt_of_cell (hc0 0 _ rfl)
            have lb' : bv < wr.heap.size := Nat.lt_of_lt_of_le lb HBr.out.size
            have a0 := ov_cell lb' (carry HBr.out lb (hc0 0 _ rfl))
            have a1 := ov_cell lb' (carry HBr.out lb (hc0 1 _ rfl))
            have a2 := ov_cell lb' (carry HBr.out lb (hc0 2 _ rfl))
            have b0 := ov_cell lb' (carry HBr.out lb (hc1 0 _ rfl))
            have b1 := ov_cell lb' (carry HBr.out lb (hc1 1 _ rfl))
            have b2 := ov_cell lb' (carry HBr.out lb (hc1 2 _ rfl))
            have f0 := ov_cell lb' (carry HBr.out lb (hc2 0 _ rfl))
            have f1 := ov_cell lb' (carry HBr.out lb (hc2 1 _ rfl))
            have f2 := ov_cell lb' (carry HBr.out lb (hc2 2 _ rfl))
            dsimp only [numV] at a0 a1 a2 b0 b1 b2 f0 f1 f2
            simp only [Nat.add_zero] at a0 b0 f0
            have d4 := ov_row ((HBr.out.block _ (Array.getElem?_eq_some_iff.1 R8.out).1).trans R8.out) 4 (v := .slice (some ⟨bv, ov', none⟩) (3 * k) p2) rfl
            have m0 : IntKind.i64.wrap (3 * (j : Int)) = 3 * (j : Int) := IntWalk.i64_in _ (by omega)
            have m1 : IntKind.i64.wrap (3 * (j : Int) + 1) = 3 * (j : Int) + 1 := IntWalk.i64_in _ (by omega)
            have m2 : IntKind.i64.wrap (3 * (j : Int) + 2) = 3 * (j : Int) + 2 := IntWalk.i64_in _ (by omega)
            have q0 : (3 * (j : Int)).toNat = 3 * j := by omega
            have q1 : (3 * (j : Int) + 1).toNat = 3 * j + 1 := by omega
            have q2 : (3 * (j : Int) + 2).toNat = 3 * j + 2 := by omega
            have z0 : (0 : Int) ≤ 3 * (j : Int) := by omega
            have z1 : (0 : Int) ≤ 3 * (j : Int) + 1 := by omega
            have z2 : (0 : Int) ≤ 3 * (j : Int) + 2 := by omega
            have l0 : 3 * (j : Int) < 3 * (k : Int) := by omega
            have l1 : 3 * (j : Int) + 1 < 3 * (k : Int) := by omega
            have l2 : 3 * (j : Int) + 2 < 3 * (k : Int) := by omega
            clear g0 g1 g2 hc0 hc1 hc2 lb lb'
            go_upto_region 22 with fail
            refine wp_region_over_lit (by kernel_rfl) (by kernel_rfl) ?_
            repeat (first
              | go_big_quiet_step ((first | (go_at_call_of 15 (Value.int .i64 (j : Int)); exact calls_over (rnumL_c j)) | (go_at_call 15; exact calls_over (rnumL_c 0)))))
            refine wpQuiet_nil ?_
            intro W' hW'
            obtain ⟨x, rfl⟩ := hW'
            have HBx := hid (HBr.out.trans ((ov_below x).mono HBr.out.size))
            clear a0 a1 a2 b0 b1 b2 f0 f1 f2 d4 m0 m1 m2 q0 q1 q2 z0 z1 z2 l0 l1 l2
            go_wp2_with fail
            go_roundw
            case rel => exact ⟨j + 1, by omega, by go_num, HBx⟩
            case measure => simp [RowKit.intOf]; omega
          · obtain rfl : j = k := by omega
            go_wp2_with fail
            refine (awake18_c _).mono ?_
            rintro e w9 ⟨rfl, hb9⟩
            have HB9 := hid (HB8.out.trans ((HBr.out.trans (hb9.mono HBr.out.size)).mono HB8.out.size))
            clear hb9
            go_wp2_with fail
            go_ret
            exact ⟨rfl, HB9.out⟩
  · have HS3 := hid (show St1 B3 w3 D3 G3 (pw 3 0) from hS3)
    clear hS3 hM3
    go_wp2_with (go_at_call 14; refine (err_c 0 _).mono ?_; rintro e w4 ⟨rfl, rfl⟩)
    go_loopw [12] (fun i wx => ∃ k : Nat, k ≤ K ∧ i = .int .i64 k ∧ Box (∃ B D G, St1 B wx D G (pw 3 k) ∧ G.at_ = a3 ∧ B.n = w.heap.size ∧ Below w.heap.size w wx)) (fun i _ => K - (RowKit.intOf i).toNat)
    case atStart => exact ⟨0, by omega, rfl, hid ⟨B3, D3, G3, HS3.out, hat, HN3.out, HB3.out⟩⟩
    case round =>
      clear HS3 HB3 HN3 hat
      obtain ⟨k, hk, rfl, HX⟩ := hrel
      obtain ⟨B, D, G, hS, hat, hN, hB⟩ := HX.out
      have HS := hid hS
      have HN := hid hN
      have HB := hid hB
      clear HX hS hN hB
      subst hat
      rcases Nat.lt_or_ge k K with hlt | hge
      · have hlt' : (k : Int) < K := by omega
        go_wp2_with (go_at_call 15; refine (rnumL_c k).mono ?_; rintro e w5 ⟨rfl, hb5⟩; have HS5 := hid (HS.out.below hb5); have HB5 := hid (HB.out.trans (hb5.mono HB.out.size)); clear hb5)
        refine (wait_waits HS5.out (p := 2) (by decide) (by decide) (c := cw 3 k) rfl rfl (by simp only [cw, wv_length]; omega) rfl (numV k) ⟨1, 0, ByteArray.empty⟩ 3).mono ?_
        rintro e w6 ⟨rfl, B6, D6, G6, hS6, hM6⟩
        have HX := hid (show ∃ B D G', St1 B w6 D G' (pw 3 (k + 1)) ∧ G'.at_ = G.at_ ∧ B.n = w.heap.size ∧ Below w.heap.size w w6 from ⟨B6, D6, G6, hS6, hM6.at_, hM6.ext.hn.trans HN.out, HB5.out.trans (hM6.low HS5.out (Nat.le_of_eq HN.out.symm))⟩)
        clear hS6 hM6 HS5 HB5 HS HN HB
        go_wp2_with fail
        go_roundw
        case rel => exact ⟨k + 1, by omega, by go_num, HX⟩
        case measure => simp [RowKit.intOf]; omega
      · obtain rfl : k = K := by omega
        have c0 := HS.out.ok.c (k := 0) (u := ptr G.hp) rfl
        unfold ptr at c0
        go_wp2_with fail
        have HL := hid (HS.out.h.load HS.out.le HS.out.hp HS.out.cells (k := 2) (by decide) (by decide) (c := cw 3 k) rfl)
        refine HL.out.mono ?_
        clear HL
        rintro e w7 ⟨A1, n1, p1, A2, n2, p2, rfl, hb7, hr7⟩
        have hn2 : n2 = 3 * k := by have := hr7.v.get.1; rw [List.length_map] at this; rw [← this]; exact wv_length _ _
        subst hn2
        dsimp only [cw]
        have hb8 := (Below.refl w7.heap.size w7).alloc (Nat.le_refl _) (.cells #[.int .i64 5, .int .i64 0, .int .i64 0, .slice A1 n1 p1, .slice A2 (3 * k) p2] 47)
        have r8 := heap_alloc_new w7 (.cells #[.int .i64 5, .int .i64 0, .int .i64 0, .slice A1 n1 p1, .slice A2 (3 * k) p2] 47)
        have hv8 := hr7.v.move (Fr.of_below hb8)
        have hb78 := hb7.trans (hb8.mono hb7.size)
        have HS8 := hid (HS.out.below hb78)
        have HB8 := hid (HB.out.trans (hb78.mono HB.out.size))
        go_upto_region 17 with fail
        generalize (w7.alloc (.cells #[.int .i64 5, .int .i64 0, .int .i64 0, .slice A1 n1 p1, .slice A2 (3 * k) p2] 47)) = W8 at HS8 HB8 r8 hv8 ⊢
        generalize w7.heap.size = b8 at r8 ⊢
        have R8 := hid r8
        have HV8 := hid hv8
        obtain ⟨Aj, pj, ej⟩ := HS8.out.ok.jobs.slice
        have c7 := HS8.out.ok.c (k := 7) (u := .slice Aj 0 pj) (by show some G.jsl = _; rw [ej]; rfl)
        have d0 := (cell_of_row _ _ 0 _ _ _ r8).trans (b := some (Value.int .i64 5)) rfl
        have d1 := (cell_of_row _ _ 1 _ _ _ r8).trans (b := some (Value.int .i64 0)) rfl
        have d4 := (cell_of_row _ _ 4 _ _ _ r8).trans (b := some (Value.slice A2 (3 * k) p2)) rfl
        have hw3 : IntKind.i64.wrap (3 * (k : Int)) = 3 * (k : Int) := IntWalk.i64_in _ (by omega)
        clear hb7 hr7 hb8 r8 hv8 hb78 c0 ej HS HB
        go_wp2_with (go_at_call 14; refine (err_c 0 _).mono ?_; rintro e w4 ⟨rfl, rfl⟩)
        clear c7 d0 d1 d4 HS8
        go_loopw [15] (fun i wx => ∃ j : Nat, j ≤ k ∧ i = .int .i64 j ∧ Box (Below w4.heap.size w4 wx)) (fun i _ => k - (RowKit.intOf i).toNat)
        case atStart => exact ⟨0, by omega, rfl, hid (Below.refl _ _)⟩
        case round =>
          obtain ⟨j, hj, rfl, HBr⟩ := hrel
          rcases Nat.lt_or_ge j k with hjk | hjk
          · have hjk' : (j : Int) < (k : Int) := by omega
            obtain ⟨g0, g1, g2⟩ := wv_get 3 k j hjk
            obtain ⟨bv, ov', rfl, _, hc0⟩ := HV8.out.get.2.2 (3 * j) (numV j).row (by rw [List.getElem?_map, show (cw 3 k).vals = wv 3 k from rfl, g0]; rfl)
            obtain ⟨bv', ov'', e', _, hc1⟩ := HV8.out.get.2.2 (3 * j + 1) (VD.row ⟨1, 0, ByteArray.empty⟩) (by rw [List.getElem?_map, show (cw 3 k).vals = wv 3 k from rfl, g1]; rfl)
            injection e' with e'; injection e' with ea eb; subst ea eb
            obtain ⟨bv', ov'', e', _, hc2⟩ := HV8.out.get.2.2 (3 * j + 2) (numV 3).row (by rw [List.getElem?_map, show (cw 3 k).vals = wv 3 k from rfl, g2]; rfl)
            injection e' with e'; injection e' with ea eb; subst ea eb
            have lb := block_lt_of_cell (hc0 0 _ rfl)
            have lb' : bv < wr.heap.size := Nat.lt_of_lt_of_le lb HBr.out.size
            have a0 := ov_cell lb' (carry HBr.out lb (hc0 0 _ rfl))
            have a1 := ov_cell lb' (carry HBr.out lb (hc0 1 _ rfl))
            have a2 := ov_cell lb' (carry HBr.out lb (hc0 2 _ rfl))
            have b0 := ov_cell lb' (carry HBr.out lb (hc1 0 _ rfl))
            have b1 := ov_cell lb' (carry HBr.out lb (hc1 1 _ rfl))
            have b2 := ov_cell lb' (carry HBr.out lb (hc1 2 _ rfl))
            have f0 := ov_cell lb' (carry HBr.out lb (hc2 0 _ rfl))
            have f1 := ov_cell lb' (carry HBr.out lb (hc2 1 _ rfl))
            have f2 := ov_cell lb' (carry HBr.out lb (hc2 2 _ rfl))
            dsimp only [numV] at a0 a1 a2 b0 b1 b2 f0 f1 f2
            simp only [Nat.add_zero] at a0 b0 f0
            have d4 := ov_row ((HBr.out.block _ (Array.getElem?_eq_some_iff.1 R8.out).1).trans R8.out) 4 (v := .slice (some ⟨bv, ov', none⟩) (3 * k) p2) rfl
            have m0 : IntKind.i64.wrap (3 * (j : Int)) = 3 * (j : Int) := IntWalk.i64_in _ (by omega)
            have m1 : IntKind.i64.wrap (3 * (j : Int) + 1) = 3 * (j : Int) + 1 := IntWalk.i64_in _ (by omega)
            have m2 : IntKind.i64.wrap (3 * (j : Int) + 2) = 3 * (j : Int) + 2 := IntWalk.i64_in _ (by omega)
            have q0 : (3 * (j : Int)).toNat = 3 * j := by omega
            have q1 : (3 * (j : Int) + 1).toNat = 3 * j + 1 := by omega
            have q2 : (3 * (j : Int) + 2).toNat = 3 * j + 2 := by omega
            have z0 : (0 : Int) ≤ 3 * (j : Int) := by omega
            have z1 : (0 : Int) ≤ 3 * (j : Int) + 1 := by omega
            have z2 : (0 : Int) ≤ 3 * (j : Int) + 2 := by omega
            have l0 : 3 * (j : Int) < 3 * (k : Int) := by omega
            have l1 : 3 * (j : Int) + 1 < 3 * (k : Int) := by omega
            have l2 : 3 * (j : Int) + 2 < 3 * (k : Int) := by omega
            clear g0 g1 g2 hc0 hc1 hc2 lb lb'
            go_upto_region 22 with fail
            refine wp_region_over_lit (by kernel_rfl) (by kernel_rfl) ?_
            repeat (first
              | go_big_quiet_step ((first | (go_at_call_of 15 (Value.int .i64 (j : Int)); exact calls_over (rnumL_c j)) | (go_at_call 15; exact calls_over (rnumL_c 3)))))
            refine wpQuiet_nil ?_
            intro W' hW'
            obtain ⟨x, rfl⟩ := hW'
            have HBx := hid (HBr.out.trans ((ov_below x).mono HBr.out.size))
            clear a0 a1 a2 b0 b1 b2 f0 f1 f2 d4 m0 m1 m2 q0 q1 q2 z0 z1 z2 l0 l1 l2
            go_wp2_with fail
            go_roundw
            case rel => exact ⟨j + 1, by omega, by go_num, HBx⟩
            case measure => simp [RowKit.intOf]; omega
          · obtain rfl : j = k := by omega
            go_wp2_with fail
            refine (awake18_c _).mono ?_
            rintro e w9 ⟨rfl, hb9⟩
            have HB9 := hid (HB8.out.trans ((HBr.out.trans (hb9.mono HBr.out.size)).mono HB8.out.size))
            clear hb9
            go_wp2_with fail
            go_ret
            exact ⟨rfl, HB9.out⟩
end Go.Proofs.Ytdgpblhmfkpblaa.Pg
