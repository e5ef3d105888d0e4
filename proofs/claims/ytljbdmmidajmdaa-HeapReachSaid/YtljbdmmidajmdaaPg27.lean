/- The walk of HeapMarks; the document's example of package heap. -/
import Derived.Test.YtljbdmmidajmdaaPg26
namespace Go.Proofs.Ytljbdmmidajmdaa.Pg
open Go.RowKit

theorem Hp.low {B : Nat} {w w' : World} {D D' : FD} {hs : List Nat} {L : List (Option (List CD))} (h : Hp B w D hs L) (hG : Goes B w D w' D') (hB : B ≤ w.heap.size) : Below B w w' := hG.low h.fam hB

set_option maxHeartbeats 1600000 in
set_option maxRecDepth 100000 in
theorem hawake_c (w : World) : Calls Try.prog 29 #[] w fun e w' => e = .returned (.bool true) ∧ Below w.heap.size w w' := by
  go_enter Try.func29, Try.ntmps29
  go_wp2_with (go_at_call 30; refine (Hp.new w (Nat.le_refl _)).mono ?_; rintro e w1 ⟨a, rfl, D, hF, hb, -⟩; have s1 := hb.size; have HF := hid hF; have HB := hid hb; clear hF hb)
  refine (HF.out.alloc s1 (by simp) (i := 0) rfl rfl (by simp) (c := ⟨1, 0, 0, [], []⟩) (noReads _ _ _) (noSmall _ _ _)).mono ?_
  rintro e w2 ⟨rfl, D2, hF2, hG2⟩
  have s2 := hG2.fr.size
  have HF2 := hid hF2
  have HB2 := hid (HB.out.trans (HF.out.low hG2 s1))
  clear hF2 hG2
  go_wp2_with fail
  refine (HF2.out.load (by omega) (i := 0) rfl rfl (k := 1) (by decide) (by decide) (c := ⟨1, 0, 0, [], []⟩) rfl).mono ?_
  rintro e w3 ⟨A, n, cap, A', n', cap', rfl, hb3, -⟩
  have s3 := hb3.size
  have HB3 := hid ((HB2.out.trans (hb3.mono (by omega))).alloc (by omega) (.cells #[.int .i64 1, .int .i64 0, .int .i64 0, .slice A n cap, .slice A' n' cap'] 31))
  clear hb3
  go_wp2_with (go_at_call 16; refine (err_c _ _).mono ?_; rintro e w' ⟨rfl, rfl⟩)
  go_ret
  exact ⟨rfl, HB3.out⟩

set_option maxHeartbeats 3200000 in
set_option maxRecDepth 100000 in
theorem hmarks_c (n n2 : Int) (hn0 : 0 ≤ n) (hn1 : n ≤ 255) (w : World) : Calls Try.prog 11 #[.int .u8 n, .int .u8 n2] w fun e w' => e = .returned (.bool true) ∧ Below w.heap.size w w' := by
  have y0 : n.tmod 40 = n % 40 := Int.tmod_eq_emod_of_nonneg hn0
  obtain ⟨K, hK⟩ : ∃ K : Nat, 1 + n % 40 = (K : Int) := ⟨(1 + n % 40).toNat, by omega⟩
  have hK1 : 1 ≤ K := by omega
  have hK2 : K ≤ 40 := by omega
  go_enter Try.func11, Try.ntmps11
  go_wp2_with (go_at_call 30; refine (Hp.new w (Nat.le_refl _)).mono ?_; rintro e w1 ⟨a, rfl, D, hF, hb, -⟩; have s1 := hb.size; have HF := hid hF; have HB := hid hb; clear hF hb)
  go_loopw [7] (fun i wr => ∃ k : Nat, k ≤ K ∧ i = .int .i64 k ∧ Box (Below w.heap.size w wr) ∧ Box (∃ D, Hp w.heap.size wr D [a] [some (counted 1 k)])) (fun i _ => K - (intOf i).toNat)
  case atStart => exact ⟨0, by omega, rfl, HB, hid ⟨D, HF.out⟩⟩
  case round =>
    clear HF HB
    obtain ⟨k, hk, rfl, HB, HP⟩ := hrel
    have s1 := HB.out.size
    obtain ⟨D, hP⟩ := HP.out
    have HF := hid hP
    have HL := hid (counted_length 1 k)
    clear hP HP
    rcases Nat.lt_or_ge k K with hlt | hge
    · have hlt' : (k : Int) < K := by omega
      have hk4 : k < 4096 := by omega
      go_wp2_with fail
      refine (HF.out.alloc s1 (by simp) (i := 0) rfl rfl (by rw [HL.out]; exact hk4) (c := ⟨1, k, 0, [], []⟩) (noReads _ _ _) (noSmall _ _ _)).mono ?_
      rintro e w2 ⟨rfl, D2, hF2, hG2⟩
      have HB2 := hid (HB.out.trans (HF.out.low hG2 s1))
      have hF3 : Hp w.heap.size w2 D2 [a] [some (counted 1 k ++ [⟨1, k, 0, [], []⟩])] := hF2
      rw [counted_succ] at hF3
      have HF2 := hid (show ∃ D, Hp w.heap.size w2 D [a] [some (counted 1 (k + 1))] from ⟨D2, hF3⟩)
      clear hF2 hG2 hF3
      go_wp2_with fail
      go_roundw
      case rel => exact ⟨k + 1, by omega, by go_num, HB2, HF2⟩
      case measure => simp [intOf]; omega
    · obtain rfl : k = K := by omega
      have HC := hid (counted_at 1 (k := k) (i := 0) (by omega))
      generalize counted 1 k = l at HF HL HC
      go_wp2_with fail
      refine (HF.out.mark s1 (by simp) (i := 0) rfl rfl).mono ?_
      rintro e w2 ⟨m, rfl, D2, hF2, hG2, -⟩
      have s2 := hG2.fr.size
      have HF2 := hid (show Hp w.heap.size w2 D2 [a, m] [some l, some l] from hF2)
      have HB2 := hid (HB.out.trans (HF.out.low hG2 s1))
      clear hF2 hG2
      go_wp2_with fail
      refine (HF2.out.alloc (by omega) (by simp) (i := 0) rfl rfl (by rw [HL.out]; omega) (c := ⟨2, 0, 0, [], []⟩) (noReads _ _ _) (noSmall _ _ _)).mono ?_
      rintro e w3 ⟨rfl, D3, hF3, hG3⟩
      rw [HL.out]
      have s3 := hG3.fr.size
      have HF3 := hid (show Hp w.heap.size w3 D3 [a, m] [some (l ++ [⟨2, 0, 0, [], []⟩]), some l] from hF3)
      have HB3 := hid (HB2.out.trans (HF2.out.low hG3 (by omega)))
      clear hF3 hG3
      go_wp2_with fail
      refine (HF3.out.alloc (by omega) (by simp) (i := 1) rfl rfl (by rw [HL.out]; omega) (c := ⟨3, 0, 0, [], []⟩) (noReads _ _ _) (noSmall _ _ _)).mono ?_
      rintro e w4 ⟨rfl, D4, hF4, hG4⟩
      rw [HL.out]
      have s4 := hG4.fr.size
      have HF4 := hid (show Hp w.heap.size w4 D4 [a, m] [some (l ++ [⟨2, 0, 0, [], []⟩]), some (l ++ [⟨3, 0, 0, [], []⟩])] from hF4)
      have HB4 := hid (HB3.out.trans (HF3.out.low hG4 (by omega)))
      have Q2 := hid (show (l ++ [⟨2, 0, 0, [], []⟩])[((k : Int) + 1 - 1).toNat]? = some ⟨2, 0, 0, [], []⟩ by rw [show ((k : Int) + 1 - 1).toNat = l.length by rw [HL.out]; omega]; simp)
      have Q3 := hid (show (l ++ [⟨3, 0, 0, [], []⟩])[((k : Int) + 1 - 1).toNat]? = some ⟨3, 0, 0, [], []⟩ by rw [show ((k : Int) + 1 - 1).toNat = l.length by rw [HL.out]; omega]; simp)
      clear hF4 hG4
      go_wp2_with fail
      refine (HF4.out.load (by omega) (i := 0) rfl rfl (k := (k : Int) + 1) (by omega) (by omega) (c := ⟨2, 0, 0, [], []⟩) Q2.out).mono ?_
      rintro e w5 ⟨A5, p5, cap5, B5, q5, dap5, rfl, hb5, -⟩
      have s5 := hb5.size
      have hb5' := hb5.alloc s5 (.cells #[.int .i64 2, .int .i64 0, .int .i64 0, .slice A5 p5 cap5, .slice B5 q5 dap5] 31)
      have HF5 := hid (HF4.out.below hb5')
      have HB5 := hid (HB4.out.trans (hb5'.mono (by omega)))
      have AP1 := hid (Apart.new (HF4.out.below hb5).fam (.cells #[.int .i64 2, .int .i64 0, .int .i64 0, .slice A5 p5 cap5, .slice B5 q5 dap5] 31))
      have s5' := hb5'.size
      clear hb5 hb5'
      go_wp2_with fail
      generalize (w5.alloc (.cells #[.int .i64 2, .int .i64 0, .int .i64 0, .slice A5 p5 cap5, .slice B5 q5 dap5] 31)) = w6 at HF5 HB5 AP1 s5' ⊢
      refine (HF5.out.load (by omega) (i := 1) rfl rfl (k := (k : Int) + 1) (by omega) (by omega) (c := ⟨3, 0, 0, [], []⟩) Q3.out).mono ?_
      rintro e w7 ⟨A7, p7, cap7, B7, q7, dap7, rfl, hb7, -⟩
      have s7 := hb7.size
      have hb7' := hb7.alloc s7 (.cells #[.int .i64 3, .int .i64 0, .int .i64 0, .slice A7 p7 cap7, .slice B7 q7 dap7] 31)
      have HF7 := hid (HF5.out.below hb7')
      have HB7 := hid (HB5.out.trans (hb7'.mono (by omega)))
      have AP2 := hid (AP1.out.below hb7')
      have AP3 := hid (Apart.new (HF5.out.below hb7).fam (.cells #[.int .i64 3, .int .i64 0, .int .i64 0, .slice A7 p7 cap7, .slice B7 q7 dap7] 31))
      have s7' := hb7'.size
      clear hb7 hb7' HF5 AP1
      go_wp2_with fail
      generalize (w7.alloc (.cells #[.int .i64 3, .int .i64 0, .int .i64 0, .slice A7 p7 cap7, .slice B7 q7 dap7] 31)) = w8 at HF7 HB7 AP2 AP3 s7' ⊢
      refine (HF7.out.store (by omega) (by simp) (i := 0) rfl rfl (k := 1) (by decide) (by decide) (by simp) (c := ⟨4, 0, 0, [], []⟩) (noReads _ _ _) (noSmall _ _ _)).mono ?_
      rintro e w9 ⟨rfl, D9, hF9, hG9⟩
      have s9 := hG9.fr.size
      have HL9 := hid (show ((l ++ [(⟨2, 0, 0, [], []⟩ : CD)]).set ((1 : Int) - 1).toNat (⟨4, 0, 0, [], []⟩ : CD)).length = k + 1 by rw [List.length_set, List.length_append, HL.out]; rfl)
      generalize ((l ++ [(⟨2, 0, 0, [], []⟩ : CD)]).set ((1 : Int) - 1).toNat (⟨4, 0, 0, [], []⟩ : CD)) = l9 at hF9 HL9
      have HF9 := hid (show Hp w.heap.size w9 D9 [a, m] [some l9, some (l ++ [⟨3, 0, 0, [], []⟩])] from hF9)
      have HB9 := hid (HB7.out.trans (HF7.out.low hG9 (by omega)))
      have AP4 := hid (AP2.out.goes hG9)
      have AP5 := hid (AP3.out.goes hG9)
      have Q4 := hid (show (l ++ [⟨3, 0, 0, [], []⟩])[((1 : Int) - 1).toNat]? = some ⟨1, 0, 0, [], []⟩ by rw [show ((1 : Int) - 1).toNat = 0 from rfl, List.getElem?_append_left (by rw [HL.out]; omega)]; exact HC.out)
      clear hF9 hG9 HF7 AP2 AP3
      go_wp2_with fail
      refine (HF9.out.load (by omega) (i := 1) rfl rfl (k := 1) (by decide) (by decide) (c := ⟨1, 0, 0, [], []⟩) Q4.out).mono ?_
      rintro e w10 ⟨A10, p10, cap10, B10, q10, dap10, rfl, hb10, -⟩
      have s10 := hb10.size
      have hb10' := hb10.alloc s10 (.cells #[.int .i64 1, .int .i64 0, .int .i64 0, .slice A10 p10 cap10, .slice B10 q10 dap10] 31)
      have HF10 := hid (HF9.out.below hb10')
      have HB10 := hid (HB9.out.trans (hb10'.mono (by omega)))
      have AP6 := hid (AP4.out.below hb10')
      have AP7 := hid (AP5.out.below hb10')
      have AP8 := hid (Apart.new (HF9.out.below hb10).fam (.cells #[.int .i64 1, .int .i64 0, .int .i64 0, .slice A10 p10 cap10, .slice B10 q10 dap10] 31))
      have s10' := hb10'.size
      clear hb10 hb10' HF9 AP4 AP5
      go_wp2_with fail
      generalize (w10.alloc (.cells #[.int .i64 1, .int .i64 0, .int .i64 0, .slice A10 p10 cap10, .slice B10 q10 dap10] 31)) = w11 at HF10 HB10 AP6 AP7 AP8 s10' ⊢
      refine (HF10.out.drop (by simp) (i := 1) rfl rfl).mono ?_
      rintro e w12 ⟨rfl, D12, hF12, hG12⟩
      have s12 := hG12.fr.size
      have HF12 := hid (show Hp w.heap.size w12 D12 [a, m] [some l9, none] from hF12)
      have HB12 := hid (HB10.out.trans (HF10.out.low hG12 (by omega)))
      have AP9 := hid (AP6.out.goes hG12)
      have AP10 := hid (AP7.out.goes hG12)
      have AP11 := hid (AP8.out.goes hG12)
      clear hF12 hG12 HF10 AP6 AP7 AP8
      go_wp2_with fail
      refine (HF12.out.load_no (by omega) (i := 1) rfl (o := none) rfl (k := 1) (by decide) (.inr (by decide))).mono ?_
      rintro e w13 ⟨A13, p13, cap13, B13, q13, dap13, rfl, hb13⟩
      have s13 := hb13.size
      have hb13' := hb13.alloc s13 (.cells #[.int .i64 0, .int .i64 0, .int .i64 0, .slice A13 p13 cap13, .slice B13 q13 dap13] 31)
      have HF13 := hid (HF12.out.below hb13')
      have HB13 := hid (HB12.out.trans (hb13'.mono (by omega)))
      have r1 := (AP9.out.below hb13').at_
      have r2 := (AP10.out.below hb13').at_
      have r3 := (AP11.out.below hb13').at_
      have s13' := hb13'.size
      have e1 := (cell_of_row _ _ 0 _ _ _ r1).trans (b := some (Value.int IntKind.i64 2)) rfl
      have e2 := (cell_of_row _ _ 0 _ _ _ r2).trans (b := some (Value.int IntKind.i64 3)) rfl
      have e3 := (cell_of_row _ _ 0 _ _ _ r3).trans (b := some (Value.int IntKind.i64 1)) rfl
      have hd : ((k : Int) + 1 + 7).tdiv 8 = ((k : Int) + 1 + 7) / 8 := Int.tdiv_eq_ediv_of_nonneg (by omega)
      have HN := hid (show (((l9.length + 7) / 8 : Nat) : Int) = ((k : Int) + 1 + 7) / 8 by rw [HL9.out]; omega)
      clear hb13 hb13' HF12 AP9 AP10 AP11 r1 r2 r3
      go_wp2_with fail
      generalize (w13.alloc (.cells #[.int .i64 0, .int .i64 0, .int .i64 0, .slice A13 p13 cap13, .slice B13 q13 dap13] 31)) = w14 at HF13 HB13 s13' e1 e2 e3 ⊢
      go_wp2_with (go_at_call 16; refine (err_c _ _).mono ?_; rintro e w' ⟨rfl, rfl⟩)
      refine (HF13.out.len_gone (i := 1) rfl rfl).mono ?_
      rintro e w' ⟨rfl, rfl⟩
      go_wp2_with fail
      refine (HF13.out.live_one (i := 0) rfl rfl rfl HN.out).mono ?_
      rintro e w' ⟨rfl, rfl⟩
      go_wp2_with fail
      refine (hawake_c _).mono ?_
      rintro e w15 ⟨rfl, hb15⟩
      have HB15 := hid (HB13.out.trans (hb15.mono (by omega)))
      clear hb15
      go_wp2_with fail
      go_ret
      exact ⟨rfl, HB15.out⟩
end Go.Proofs.Ytljbdmmidajmdaa.Pg
