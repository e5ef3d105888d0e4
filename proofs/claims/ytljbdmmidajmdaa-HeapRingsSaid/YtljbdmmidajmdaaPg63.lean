/- A ring is reached from each of it, once: the walk. -/
import Derived.Test.YtljbdmmidajmdaaPg62
namespace Go.Proofs.Ytljbdmmidajmdaa.Pg
open Go.RowKit Go.Maps
attribute [local go_sem ↓] Go.wp_at_zero Go.wp_at_succ

set_option maxHeartbeats 12800000 in
set_option maxRecDepth 100000 in
theorem hrings_c (a b : Int) (ha0 : 0 ≤ a) (ha1 : a ≤ 255) (hb0 : 0 ≤ b) (hb1 : b ≤ 255) (w : World) :
    Calls Try.prog 10 #[.int .u8 a, .int .u8 b] w fun e w' => e = .returned (.bool true) ∧ Below w.heap.size w w' := by
  obtain ⟨an, rfl⟩ := Int.eq_ofNat_of_zero_le ha0
  obtain ⟨bn, rfl⟩ := Int.eq_ofNat_of_zero_le hb0
  obtain ⟨q, hq⟩ : ∃ q : Nat, (an : Int) % 20 = q := ⟨an % 20, by omega⟩
  have hq20 : q < 20 := by omega
  obtain ⟨r, hr⟩ : ∃ r : Nat, (bn : Int) % (1 + (q : Int)) = r := ⟨bn % (1 + q), by rw [show (1 : Int) + (q : Int) = ((1 + q : Nat) : Int) by omega]; omega⟩
  have hrq : r ≤ q := by
    have h1 := Int.emod_lt_of_pos (bn : Int) (show (0 : Int) < 1 + (q : Int) by omega)
    rw [hr] at h1
    omega
  obtain ⟨i0, hi, hz0, hz1, hz2⟩ := info_parts infoCells
  have HI := hid hi
  have HRr := hid hr
  clear hi hr
  go_enter Try.func10, Try.ntmps10
  go_wp2_with fail
  go_loopw [6, 7] (fun v i wx => ∃ j : Nat, j ≤ q + 1 ∧ i = .int .i64 ((j : Int) + 1) ∧ Box (Below w.heap.size w wx) ∧ Box (Out w.heap.size wx w.heap.size v (ringCells (q + 1) j))) (fun _ i _ => q + 2 - (RowKit.intOf i).toNat)
  case atStart => exact ⟨0, by omega, rfl, hid (Below.refl _ _), hid (Out.nil _ _ _)⟩
  case round =>
    obtain ⟨j, hj, rfl, HB, HO⟩ := hrel
    have s1 := HB.out.size
    rcases Nat.lt_or_ge j (q + 1) with hlt | hge
    · have hlt' : (j : Int) + 1 ≤ 1 + (q : Int) := by omega
      obtain ⟨m, hm⟩ : ∃ m : Nat, ((j : Int) + 1) % (1 + (q : Int)) = m := ⟨(j + 1) % (q + 1), by rw [show (1 : Int) + (q : Int) = ((q + 1 : Nat) : Int) by omega, show (j : Int) + 1 = ((j + 1 : Nat) : Int) by omega]; omega⟩
      have hmq : m ≤ q := by
        have h1 := Int.emod_lt_of_pos ((j : Int) + 1) (show (0 : Int) < 1 + (q : Int) by omega)
        rw [hm] at h1
        omega
      have hmc : m = (j + 1) % (q + 1) := by
        rw [show (1 : Int) + (q : Int) = ((q + 1 : Nat) : Int) by omega, show (j : Int) + 1 = ((j + 1 : Nat) : Int) by omega] at hm
        omega
      have HMc := hid hmc
      clear hmc
      have hb4 := (Below.refl wr.heap.size wr).alloc (Nat.le_refl _) (.cells #[.int .i64 4, .int .i64 ((m : Int) + 1), .int .i64 0, .slice none 0 0, .slice none 0 0] 31)
      obtain ⟨inner, ho, hcc⟩ := HO.out.below hb4
      rw [ringCells_length] at ho
      have HOwn := hid ho
      have HCC := hid hcc
      have HNews := hid (World.news_of_block (heap_alloc_new wr (.cells #[.int .i64 4, .int .i64 ((m : Int) + 1), .int .i64 0, .slice none 0 0, .slice none 0 0] 31)))
      have HB4 := hid (HB.out.trans (hb4.mono s1))
      have HS := hid (show w.heap.size ≤ (wr.alloc (.cells #[.int .i64 4, .int .i64 ((m : Int) + 1), .int .i64 0, .slice none 0 0, .slice none 0 0] 31)).heap.size from HB4.out.size)
      clear hb4 ho hcc
      go_wp2_with (at_builtin; refine wpList_append_own _ rfl _ _ 44 rfl w.heap.size 31 i0 (.agg #[.int .i64 0, .int .i64 0, .int .i64 0, .slice none 0 0, .slice none 0 0]) 5 72 Try.underlying44 HI.out hz0 hz1 hz2 rfl (by decide) u6 j inner ?c1 HOwn.out ⟨wr.heap.size, 0, none⟩ 1 1 [.int .i64 4, .int .i64 ((m : Int) + 1), .int .i64 0, .slice none 0 0, .slice none 0 0] ?c2 rfl ?c3 ?c4 ?c5 ?c6 HS.out ?_; (case c1 => rfl); (case c2 => rfl); (case c3 => exact HNews.out); (case c4 => simp [Value.oneCell']); (case c5 => unfold maxLen; omega); (case c6 => omega); intro v5 w5 hown hgrow hnil; have HB5 := hid (HB4.out.grown hgrow HS.out (fun x hx => (HOwn.out.lt x hx).1)); have HO5 := hid (Out.grow (c := ringCell (q + 1) (j + 1)) (ringCells_length _ _) HOwn.out HCC.out (Nat.le_refl _) hgrow hown ⟨_, _, by rw [HMc.out]; rfl, RowR.nil _ _ _, RowR.nil _ _ _⟩); clear hown hgrow hnil)
      go_roundw
      case rel =>
        refine ⟨j + 1, by omega, by go_num, ?_⟩
        rw [ringCells_succ]
        first | exact ⟨HB5, HO5⟩ | exact HO5
      case measure => simp [RowKit.intOf]; omega
    · obtain rfl : j = q + 1 := by omega
      have hge' : ¬ (((q + 1 : Nat) : Int) + 1 ≤ 1 + (q : Int)) := by omega
      have hqw : IntKind.i64.wrap (1 + (q : Int) + 1) = 1 + (q : Int) + 1 := IntWalk.i64_in _ (by omega)
      have hvb := heap_alloc_new wr (.cells #[.int .i64 5, .int .i64 1, .string ByteArray.empty, .int .i64 5, .int .i64 (1 + (q : Int) + 1), .string ByteArray.empty] 60)
      have hsa : (wr.alloc (.cells #[.int .i64 5, .int .i64 1, .string ByteArray.empty, .int .i64 5, .int .i64 (1 + (q : Int) + 1), .string ByteArray.empty] 60)).heap.size = wr.heap.size + 1 := by simp
      have hab := heap_alloc_new (wr.alloc (.cells #[.int .i64 5, .int .i64 1, .string ByteArray.empty, .int .i64 5, .int .i64 (1 + (q : Int) + 1), .string ByteArray.empty] 60)) (.cells #[.int .i64 2, .int .i64 0, .int .i64 0, .slice none 0 0, .slice (some ⟨wr.heap.size, 0, none⟩) 2 2] 31)
      rw [hsa] at hab
      have hb4 : Below wr.heap.size wr ((wr.alloc (.cells #[.int .i64 5, .int .i64 1, .string ByteArray.empty, .int .i64 5, .int .i64 (1 + (q : Int) + 1), .string ByteArray.empty] 60)).alloc (.cells #[.int .i64 2, .int .i64 0, .int .i64 0, .slice none 0 0, .slice (some ⟨wr.heap.size, 0, none⟩) 2 2] 31)) := ((Below.refl wr.heap.size wr).alloc (Nat.le_refl _) _).alloc (by simp) _
      have hvals := vals_of (B := w.heap.size) (w := ((wr.alloc (.cells #[.int .i64 5, .int .i64 1, .string ByteArray.empty, .int .i64 5, .int .i64 (1 + (q : Int) + 1), .string ByteArray.empty] 60)).alloc (.cells #[.int .i64 2, .int .i64 0, .int .i64 0, .slice none 0 0, .slice (some ⟨wr.heap.size, 0, none⟩) 2 2] 31))) [⟨5, 1, ByteArray.empty⟩, ⟨5, 1 + (q : Int) + 1, ByteArray.empty⟩] ((heap_alloc_old (wr.alloc (.cells #[.int .i64 5, .int .i64 1, .string ByteArray.empty, .int .i64 5, .int .i64 (1 + (q : Int) + 1), .string ByteArray.empty] 60)) (.cells #[.int .i64 2, .int .i64 0, .int .i64 0, .slice none 0 0, .slice (some ⟨wr.heap.size, 0, none⟩) 2 2] 31) (by simp)).trans hvb) (by simp)
      obtain ⟨inner, ho, hcc⟩ := HO.out.below hb4
      rw [ringCells_length] at ho
      have HOwn := hid ho
      have HCC := hid hcc
      have HV := hid hvals
      have HNews := hid (World.news_of_block hab)
      have HB4 := hid (HB.out.trans (hb4.mono s1))
      have HS := hid (show w.heap.size ≤ ((wr.alloc (.cells #[.int .i64 5, .int .i64 1, .string ByteArray.empty, .int .i64 5, .int .i64 (1 + (q : Int) + 1), .string ByteArray.empty] 60)).alloc (.cells #[.int .i64 2, .int .i64 0, .int .i64 0, .slice none 0 0, .slice (some ⟨wr.heap.size, 0, none⟩) 2 2] 31)).heap.size from HB4.out.size)
      clear hb4 ho hcc hvals hab hvb hsa
      go_upto_region 8 with (at_builtin; refine wpList_append_own _ rfl _ _ 44 rfl w.heap.size 31 i0 (.agg #[.int .i64 0, .int .i64 0, .int .i64 0, .slice none 0 0, .slice none 0 0]) 5 72 Try.underlying44 HI.out hz0 hz1 hz2 rfl (by decide) u6 (q + 1) inner ?c1 HOwn.out ⟨wr.heap.size + 1, 0, none⟩ 1 1 [.int .i64 2, .int .i64 0, .int .i64 0, .slice none 0 0, .slice (some ⟨wr.heap.size, 0, none⟩) 2 2] ?c2 rfl ?c3 ?c4 ?c5 ?c6 HS.out ?_; (case c1 => rfl); (case c2 => rfl); (case c3 => exact HNews.out); (case c4 => simp [Value.oneCell']); (case c5 => unfold maxLen; omega); (case c6 => omega); intro v5 w5 hown hgrow hnil; have HB5 := hid (HB4.out.grown hgrow HS.out (fun x hx => (HOwn.out.lt x hx).1)); have HO5 := hid (Out.grow (c := arrCell (q + 1)) (ringCells_length _ _) HOwn.out HCC.out (Nat.le_refl _) hgrow hown ⟨_, _, rfl, RowR.nil _ _ _, by rw [show (arrCell (q + 1)).vals = [⟨5, 1, ByteArray.empty⟩, ⟨5, 1 + (q : Int) + 1, ByteArray.empty⟩] by simp [arrCell]; omega]; exact HV.out⟩); clear hown hgrow hnil)
      have HO6 := hid (show Out w.heap.size w5 w.heap.size v5 (ringAll (q + 1)) from HO5.out)
      obtain ⟨A, cap, rfl, hlm, hcr⟩ := HO6.out.slice
      rw [ringAll_length] at hcr ⊢
      have s5 := HB5.out.size
      have HCr := hid hcr
      clear hlm hcr hge'
      have hr := HRr.out
      have h1 := heap_alloc_new w5 (.cells #[.int .i64 5, .int .i64 (1 + (r : Int)), .string ByteArray.empty] 60)
      have hb6 := (Below.refl w5.heap.size w5).alloc (Nat.le_refl _) (.cells #[.int .i64 5, .int .i64 (1 + (r : Int)), .string ByteArray.empty] 60)
      have HV1 := hid (vals_of (B := (w5.alloc (.cells #[.int .i64 5, .int .i64 (1 + (r : Int)), .string ByteArray.empty] 60)).heap.size) [⟨5, 1 + (r : Int), ByteArray.empty⟩] h1 (by simp))
      have HCr6 := hid ((HCr.out.below hb6).up)
      have HB6 := hid (HB5.out.trans (hb6.mono s5))
      clear h1 hb6
      go_wp2_with fail
      clear hr
      refine (reach_is (M := upTo 1 (q + 1)) (by omega) HCr6.out HV1.out (upTo_sorted _ _) (fun x => by
        have := ring_reached (k := q + 1) (a := 1 + r) (by omega) (by omega) (x := x)
        rw [show (((1 + r : Nat) : Int)) = 1 + (r : Int) by omega] at this
        exact this)).mono ?_
      rintro e w7 ⟨A7, c7, rfl, hrow7, hb7⟩
      rw [upTo_length, show q + 1 + 1 - 1 = q + 1 by omega] at hrow7 ⊢
      have s6 := HB6.out.size
      have HB7 := hid (HB6.out.trans (hb7.mono s6))
      have HCr7 := hid (HCr6.out.below hb7)
      have HRow7 := hid hrow7
      have s7 := HB7.out.size
      clear hrow7 hb7
      have h2 := heap_alloc_new w7 (.cells #[.int .i64 5, .int .i64 (1 + (q : Int) + 1), .string ByteArray.empty, .int .i64 5, .int .i64 (1 + (q : Int) + 1), .string ByteArray.empty] 60)
      have hb8 := (Below.refl w7.heap.size w7).alloc (Nat.le_refl _) (.cells #[.int .i64 5, .int .i64 (1 + (q : Int) + 1), .string ByteArray.empty, .int .i64 5, .int .i64 (1 + (q : Int) + 1), .string ByteArray.empty] 60)
      have HV2 := hid (vals_of (B := (w7.alloc (.cells #[.int .i64 5, .int .i64 (1 + (q : Int) + 1), .string ByteArray.empty, .int .i64 5, .int .i64 (1 + (q : Int) + 1), .string ByteArray.empty] 60)).heap.size) [⟨5, 1 + (q : Int) + 1, ByteArray.empty⟩, ⟨5, 1 + (q : Int) + 1, ByteArray.empty⟩] h2 (by simp))
      have HCr8 := hid ((HCr7.out.below hb8).up)
      have HB8 := hid (HB7.out.trans (hb8.mono s7))
      have HRow8 := hid (own_move HRow7.out (fun k hk => hb8.block k (HRow7.out.lt k hk).2))
      clear h2 hb8
      go_wp2_with fail
      refine (reach_is (M := upTo 1 (q + 2)) (by omega) HCr8.out HV2.out (upTo_sorted _ _) (fun x => by
        have := arr_reached (k := q + 1) (by omega) (x := x)
        rw [show (((q + 1 : Nat) : Int)) + 1 = 1 + (q : Int) + 1 by omega] at this
        exact this)).mono ?_
      rintro e w9 ⟨A9, c9, rfl, hrow9, hb9⟩
      rw [upTo_length, show q + 2 + 1 - 1 = q + 2 by omega] at hrow9 ⊢
      have HB9 := hid (HB8.out.trans (hb9.mono HB8.out.size))
      have hrow7 := own_move HRow8.out (fun k hk => hb9.block k (HRow8.out.lt k hk).2)
      obtain ⟨g7, rfl, k7⟩ := own_at hrow7 (k := 0) (by omega)
      obtain ⟨g9, rfl, k9⟩ := own_at hrow9 (k := 0) (by omega)
      have c0 := k7 0 (.int .i64 1) (by rw [List.getElem?_map, upTo_get (by omega)]; rfl)
      have c1 := k7 q (.int .i64 (1 + (q : Int))) (by rw [List.getElem?_map, upTo_get (by omega)]; rfl)
      have c2 := k9 (1 + q) (.int .i64 (1 + (q : Int) + 1)) (by rw [List.getElem?_map, upTo_get (by omega), Option.map_some, show (((1 : Nat) : Int)) + ((1 + q : Nat) : Int) = 1 + (q : Int) + 1 by omega])
      have hl1 : ((q + 1 : Nat) : Int) = 1 + (q : Int) := by omega
      have hl2 : ((q + 2 : Nat) : Int) = 1 + (q : Int) + 1 := by omega
      have hq1 : IntKind.i64.wrap (1 + (q : Int) - 1) = (q : Int) := by rw [show (1 : Int) + q - 1 = q by omega]; exact IntWalk.i64_in _ (by omega)
      clear hrow9 hrow7 hb9 k7 k9
      go_wp2_with fail
      refine (hawake_c _).mono ?_
      rintro e w10 ⟨rfl, hb10⟩
      have HB10 := hid (HB9.out.trans (hb10.mono HB9.out.size))
      clear hb10 c0 c1 c2
      go_wp2_with fail
      go_ret
      exact ⟨rfl, HB10.out⟩
end Go.Proofs.Ytljbdmmidajmdaa.Pg
