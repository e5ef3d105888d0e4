/- The walk of PagesMarks. -/
import Derived.Test.YtljbdmmidajmdaaPg29
import Derived.Deep.OwnRows
namespace Go.Proofs.Ytljbdmmidajmdaa.Pg
open Go.RowKit

theorem infoBool : (Try.prog.info? 4).map (fun i => (i.zero, i.size, i.bytes)) = some (some (.bool false), 1, 1) := by kernel_rfl
theorem make8 (w : World) : (Instr.makeSlice 58 (.int .i64 8) (.int .i64 8)).run Try.prog w = .ok (.slice (some ⟨w.heap.size, 0, none⟩) 8 8) (w.alloc (.cells #[.bool false, .bool false, .bool false, .bool false, .bool false, .bool false, .bool false, .bool false] 4)) := by
  have h := run_make_row' 58 4 (.bool false) 1 Try.underlying58 infoBool rfl .i64 .i64 8 (by decide) (by decide) w
  have e : madeCells #[Value.bool false] 8 = #[.bool false, .bool false, .bool false, .bool false, .bool false, .bool false, .bool false, .bool false] := by kernel_rfl
  rw [e] at h
  exact h

theorem countP_cut {f : Nat → Bool} {a : Nat} (h : ∀ j, f j = true → j < a) : ∀ n, a ≤ n → (List.range n).countP f = (List.range a).countP f
  | 0, hn => by rw [show a = 0 by omega]
  | n + 1, hn => by
    by_cases he : a = n + 1
    · rw [he]
    · rw [List.range_succ, List.countP_append, countP_cut h n (by omega)]
      have : f n = false := by
        cases hf : f n with
        | false => rfl
        | true => have := h n hf; omega
      simp [this]

theorem getNil (i : Int) (w : World) : Calls Try.prog 15 #[.pointer none, .int .i64 i] w fun e w' => e = .returned (.tuple #[.agg #[.int .i64 0, .int .i64 0, .int .i64 0, .slice none 0 0, .slice none 0 0], .int .i64 2]) ∧ Below w.heap.size w w' := get_nil i w
theorem addNil (w : World) : Calls Try.prog 14 #[.pointer none, .agg #[.int .i64 0, .int .i64 0, .int .i64 0, .slice none 0 0, .slice none 0 0]] w fun e w' => e = .returned (.tuple #[.int .i64 0, .int .i64 2]) ∧ Below w.heap.size w w' := add_nil ⟨0, 0, 0, [], []⟩ (.slice none 0 0) (.slice none 0 0) w

set_option maxHeartbeats 3200000 in
set_option maxRecDepth 100000 in
theorem pmarks_c (n : Int) (hn0 : 0 ≤ n) (hn1 : n ≤ 255) (A : Option Addr) (len cap : Nat) (f : Nat → Int) (w : World) (hR : U8Row w A len f) :
    Calls Try.prog 6 #[.int .u8 n, .slice A len cap] w fun e w' => e = .returned (.bool true) ∧ Below w.heap.size w w' := by
  have HR := hid hR
  have hlen := hR.le
  clear hR
  have y0 : n.tmod 60 = n % 60 := Int.tmod_eq_emod_of_nonneg hn0
  obtain ⟨K, hK⟩ : ∃ K : Nat, n % 60 = (K : Int) := ⟨(n % 60).toNat, by omega⟩
  have hK2 : K < 60 := by omega
  go_enter Try.func6, Try.ntmps6
  go_wp2_with (go_at_call 13; refine (New (B := w.heap.size) (Nat.le_refl _)).mono ?_; rintro e w1 ⟨b, rfl, D, hF, hb, -, -, hS⟩; have HB := hid hb; have HS := hid (show Solo w.heap.size w1 b [] from ⟨D, [], hF, hS⟩); clear hF hb hS)
  go_loopw [7] (fun i wr => ∃ k : Nat, k ≤ K ∧ i = .int .i64 k ∧ Box (Below w.heap.size w wr) ∧ Box (Solo w.heap.size wr b (counted 1 k))) (fun i _ => K - (intOf i).toNat)
  case atStart => exact ⟨0, by omega, rfl, HB, HS⟩
  case round =>
    clear HS HB
    obtain ⟨k, hk, rfl, HB, HS⟩ := hrel
    have s1 := HB.out.size
    rcases Nat.lt_or_ge k K with hlt | hge
    · have hlt' : (k : Int) < K := by omega
      have hk4 : k < 4096 := by omega
      have HL := hid (counted_length 1 k)
      go_wp2_with fail
      refine (HS.out.add s1 (by rw [HL.out]; exact hk4) (c := ⟨1, k, 0, [], []⟩) (noReads _ _ _) (noSmall _ _ _)).mono ?_
      rintro e w2 ⟨rfl, hs2, hb2⟩
      rw [counted_succ] at hs2
      have HS2 := hid hs2
      have HB2 := hid (HB.out.trans hb2)
      clear hs2 hb2
      go_wp2_with fail
      go_roundw
      case rel => exact ⟨k + 1, by omega, by go_num, HB2, HS2⟩
      case measure => simp [intOf]; omega
    · obtain rfl : k = K := by omega
      have HL := hid (counted_length 1 k)
      have HC := hid (fun (i : Nat) (h : i < k) => counted_at 1 h)
      generalize counted 1 k = l at HS HL HC
      go_wp2_with fail
      refine (HS.out.mark s1 HL.out).mono ?_
      rintro e w2 ⟨m, rfl, hW, hb2⟩
      obtain ⟨D2, hW⟩ := hW
      have HW := hid hW
      have HB2 := hid (HB.out.trans hb2)
      have s2 := HB2.out.size
      clear hW hb2
      go_wp2_with fail
      refine (HW.out.live (n := (((k + 7) / 8 : Nat) : Int)) (by have : (List.range ((k + 7) / 8)).countP (fun _ => false) = 0 := by simp
                                                                 rw [this]; rfl)).mono ?_
      rintro e w' ⟨rfl, rfl⟩
      have hmk := make8
      go_wp2_with fail
      clear hmk
      have hal := (Below.refl w'.heap.size w').alloc (Nat.le_refl _) (.cells #[.bool false, .bool false, .bool false, .bool false, .bool false, .bool false, .bool false, .bool false] 4)
      have HW3 := hid (HW.out.below hal)
      have HB3 := hid (HB2.out.trans (hal.mono s2))
      have rr := heap_alloc_new w' (.cells #[.bool false, .bool false, .bool false, .bool false, .bool false, .bool false, .bool false, .bool false] 4)
      have HFl := hid (show Flags (w'.alloc (.cells #[.bool false, .bool false, .bool false, .bool false, .bool false, .bool false, .bool false, .bool false] 4)) D2 w'.heap.size (fun _ => false) from
        ⟨fun j hj => by
          match j, hj with
          | 0, _ | 1, _ | 2, _ | 3, _ | 4, _ | 5, _ | 6, _ | 7, _ => exact (cell_of_row _ _ _ _ _ _ rr).trans rfl,
        fun j => frozen_of_row _ _ j _ _ rr, Typ.of rr, fun hf => by have := (HW.out.fam.foot_lt hf).1; omega⟩)
      generalize (w'.alloc (.cells #[.bool false, .bool false, .bool false, .bool false, .bool false, .bool false, .bool false, .bool false] 4)) = w3 at HW3 HB3 HFl ⊢
      clear rr hal HW HB2
      have hd : ∃ d, w'.heap.size = d := ⟨_, rfl⟩
      obtain ⟨d, hd⟩ := hd
      rw [hd] at HFl s2 ⊢
      clear hd
      go_loopw [11] (fun i wr => ∃ j : Nat, j ≤ len ∧ i = .int .i64 j ∧ Box (Below w.heap.size w wr) ∧ Box (∃ D dirty, Wrote w.heap.size wr D b m k l dirty ∧ Flags wr D d dirty ∧ ∀ j, dirty j = true → j < (k + 7) / 8)) (fun i _ => len - (intOf i).toNat)
      case atStart => exact ⟨0, by omega, rfl, HB3, hid ⟨D2, _, HW3.out, HFl.out, fun _ e => by cases e⟩⟩
      case round =>
        clear HB3 HW3 HFl
        obtain ⟨j, hj, rfl, HB, HP⟩ := hrel
        have s1 := HB.out.size
        obtain ⟨D, dirty, hW, hFl, hdr⟩ := HP.out
        have HW := hid hW
        have HFl := hid hFl
        have HDR := hid hdr
        have hK60 := hK2
        clear hW hFl hdr HP
        by_cases hin : j < len ∧ 0 < k
        · obtain ⟨hj1, hj2⟩ := hin
          have hj1' : (j : Int) < len := by omega
          have hj2' : (0 : Int) < k := by omega
          obtain ⟨x, rfl, hx1, hx2, hx3, hx4⟩ := HR.out.at_ j hj1
          have hx5 := (HB.out.cell (p := x.add j) (by rw [add_block]; exact hx1)).trans hx2
          have hk0 : ¬ ((k : Int) = 0) := by omega
          have hm : (f j).tmod k = f j % k := Int.tmod_eq_emod_of_nonneg hx3
          have hm0 : 0 ≤ f j % (k : Int) := Int.emod_nonneg _ hk0
          have hm1 : f j % (k : Int) < k := Int.emod_lt_of_pos _ (by omega)
          obtain ⟨y, hy⟩ : ∃ y : Nat, f j % (k : Int) = (y : Int) := ⟨(f j % (k : Int)).toNat, by omega⟩
          rw [hy] at hm hm0 hm1
          have hyk : y < k := by omega
          clear hy hx2
          go_wp2_with fail
          refine (HW.out.set s1 (x := (y : Int)) hm0 (by rw [Int.toNat_natCast]; exact hyk) (c := ⟨2, j, 0, [], []⟩) (noReads _ _ _) (noSmall _ _ _)).mono ?_
          rintro e w4 ⟨rfl, D4, hW4, hG4⟩
          rw [Int.toNat_natCast] at hW4
          have HW4 := hid hW4
          have HB4 := hid (HB.out.trans (hG4.low HW.out.fam s1))
          have HF4 := hid (HFl.out.goes hG4)
          have s4 := hG4.fr.size
          have hq : (y : Int).tdiv 8 = ((y / 8 : Nat) : Int) := by rw [Int.tdiv_eq_ediv_of_nonneg (by omega)]; rfl
          have hy8 : y / 8 < 8 := by omega
          have hy9 : ((y / 8 : Nat) : Int) < 8 := by omega
          have hc4 := HF4.out.at_ (y / 8) hy8
          have hf4 := HF4.out.fz (y / 8)
          clear hW4 hG4 hx5
          go_wp2_with fail
          go_roundw
          case rel =>
            have hb5 := HF4.out.fam HW4.out.fam (by omega) (y / 8)
            exact ⟨j + 1, by omega, by go_num, hid (HB4.out.setCell (p := ⟨d, y / 8, none⟩) s2 _), hid ⟨D4, _, HW4.out.move hb5, HF4.out.put hy8, fun i hi => by
              by_cases he : i = y / 8
              · subst he; omega
              · exact HDR.out i (by simpa [he] using hi)⟩⟩
          case measure => simp [intOf]; omega
        · have hor : (len : Int) ≤ j ∨ ((j : Int) < len ∧ (k : Int) ≤ 0) := by omega
          rcases hor with hor | ⟨hor, hor2⟩
          all_goals
            go_wp2_with fail
            clear hor
            try clear hor2
            go_loopw [13, 14] (fun c i wx => ∃ j : Nat, j ≤ 8 ∧ i = .int .i64 j ∧ c = .int .i64 ((List.range j).countP dirty : Nat) ∧ wx = wr) (fun _ i _ => 8 - (intOf i).toNat)
            case atStart => exact ⟨0, by omega, rfl, rfl, rfl⟩
            case round =>
              obtain ⟨i, hi, rfl, rfl, rfl⟩ := hrel
              rcases Nat.lt_or_ge i 8 with hlt | hge
              · have hlt' : (i : Int) < 8 := by omega
                have hc := HFl.out.at_ i hlt
                have hcl : (List.range i).countP dirty ≤ 8 := Nat.le_trans List.countP_le_length (by rw [List.length_range]; omega)
                cases hdi : dirty i with
                | true =>
                  have HE := hid (show (List.range (i + 1)).countP dirty = (List.range i).countP dirty + 1 by rw [List.range_succ, List.countP_append]; simp [hdi])
                  rw [hdi] at hc
                  clear hdi
                  go_wp2_with fail
                  go_roundw
                  case rel => exact ⟨i + 1, by omega, by go_num, by rw [HE.out]; go_num, trivial⟩
                  case measure => simp [intOf]; omega
                | false =>
                  have HE := hid (show (List.range (i + 1)).countP dirty = (List.range i).countP dirty by rw [List.range_succ, List.countP_append]; simp [hdi])
                  rw [hdi] at hc
                  clear hdi
                  go_wp2_with fail
                  go_roundw
                  case rel => exact ⟨i + 1, by omega, by go_num, by rw [HE.out], trivial⟩
                  case measure => simp [intOf]; omega
              · obtain rfl : i = 8 := by omega
                go_wp2_with fail
                have hcut := countP_cut HDR.out 8 (by omega)
                have hown := List.countP_le_length (p := dirty) (l := List.range 8)
                rw [List.length_range] at hown
                generalize (List.range 8).countP dirty = own at hcut hown ⊢
                have HOwn := hid hown
                clear hown
                have HCut := hid hcut
                clear hcut
                go_loopw [15] (fun i wx => ∃ j : Nat, j ≤ k ∧ i = .int .i64 j ∧ Box (Below w.heap.size w wx) ∧ Box (Wrote w.heap.size wx D b m k l dirty)) (fun i _ => k - (intOf i).toNat)
                case atStart => exact ⟨0, by omega, rfl, HB, HW⟩
                case round =>
                  clear HB HW HFl s1
                  obtain ⟨i, hi, rfl, HB, HW⟩ := hrel
                  have s1 := HB.out.size
                  rcases Nat.lt_or_ge i k with hlt | hge
                  · try (exfalso; omega)
                    all_goals
                      have hlt' : (i : Int) < k := by omega
                      have hi0 : 0 ≤ (i : Int) := by omega
                      have HG := hid (HC.out i hlt)
                      go_wp2_with fail
                      refine (HW.out.get s1 (x := (i : Int)) hi0 (c := ⟨1, i, 0, [], []⟩) (by rw [Int.toNat_natCast]; exact HG.out)).mono ?_
                      rintro e w5 ⟨A5, p5, cap5, B5, q5, dap5, rfl, hb5, -⟩
                      have s5 := hb5.size
                      have HB5 := hid hb5
                      clear hb5
                      go_wp2_with fail
                      refine (err_c _ _).mono ?_
                      rintro e w6 ⟨rfl, rfl⟩
                      go_wp2_with fail
                      go_roundw
                      case rel =>
                        have hb6 := HB5.out.alloc s5 (.cells #[.int .i64 1, .int .i64 i, .int .i64 0, .slice A5 p5 cap5, .slice B5 q5 dap5] 31)
                        repeat (apply Exists.intro)
                        refine And.intro ?_ rfl
                        exact ⟨i + 1, by omega, by go_num, hid (HB.out.trans (hb6.mono s1)), hid (HW.out.below hb6)⟩
                      case measure => simp [intOf]; omega
                  · obtain rfl : i = k := by omega
                    go_wp2_with fail
                    have s1 := HB.out.size
                    have HE1 := hid (show (((i + 7) / 8 + (List.range ((i + 7) / 8)).countP dirty : Nat) : Int) = ((i : Int) + 7) / 8 + (own : Int) by rw [← HCut.out]; omega)
                    have hown : own ≤ 8 := HOwn.out
                    refine (HW.out.live HE1.out).mono ?_
                    rintro e w5 ⟨rfl, rfl⟩
                    go_wp2_with fail
                    refine (HW.out.drop s1).mono ?_
                    rintro e w6 ⟨rfl, hA, hb6⟩
                    have HA := hid hA
                    have HB6 := hid (HB.out.trans hb6)
                    have s6 := HB6.out.size
                    clear hA hb6
                    go_wp2_with fail
                    refine (HA.out.live (n := ((i : Int) + 7) / 8) (by omega)).mono ?_
                    rintro e w7 ⟨rfl, rfl⟩
                    go_wp2_with fail
                    refine (HA.out.drop s6).mono ?_
                    rintro e w8 ⟨rfl, hA8, hb8⟩
                    have HA8 := hid hA8
                    have HB8 := hid (HB6.out.trans hb8)
                    have s8 := HB8.out.size
                    clear hA8 hb8
                    go_wp2_with fail
                    refine (HA8.out.get).mono ?_
                    rintro e w9 ⟨rfl, hb9⟩
                    have s9 := hb9.size
                    have HA9 := hid (HA8.out.below hb9)
                    have HB9 := hid (HB8.out.trans (hb9.mono s8))
                    clear hb9
                    go_wp2_with fail
                    have hb10 := HB9.out.alloc HB9.out.size (.cells #[.int .i64 0, .int .i64 0, .int .i64 0, .slice none 0 0, .slice none 0 0] 31)
                    have HA10 := hid (HA9.out.below ((Below.refl _ _).alloc (Nat.le_refl _) (.cells #[.int .i64 0, .int .i64 0, .int .i64 0, .slice none 0 0, .slice none 0 0] 31)))
                    have HB10 := hid hb10
                    generalize (w9.alloc (.cells #[.int .i64 0, .int .i64 0, .int .i64 0, .slice none 0 0, .slice none 0 0] 31)) = w10 at HA10 HB10 ⊢
                    clear hb10
                    refine (getNil _ _).mono ?_
                    rintro e w11 ⟨rfl, hb11⟩
                    have s10 := HB10.out.size
                    have HA11 := hid (HA10.out.below hb11)
                    have HB11 := hid (HB10.out.trans (hb11.mono s10))
                    clear hb11
                    go_wp2_with fail
                    have s11 := HB11.out.size
                    have HB12 := hid (HB11.out.alloc s11 (.cells #[.int .i64 0, .int .i64 0, .int .i64 0, .slice none 0 0, .slice none 0 0] 31))
                    have HA12 := hid (HA11.out.below ((Below.refl _ _).alloc (Nat.le_refl _) (.cells #[.int .i64 0, .int .i64 0, .int .i64 0, .slice none 0 0, .slice none 0 0] 31)))
                    generalize (w11.alloc (.cells #[.int .i64 0, .int .i64 0, .int .i64 0, .slice none 0 0, .slice none 0 0] 31)) = w12 at HA12 HB12 ⊢
                    go_wp2_with fail
                    have s12 := HB12.out.size
                    refine (addNil _).mono ?_
                    rintro e w13 ⟨rfl, hb13⟩
                    have HA13 := hid (HA12.out.below hb13)
                    have HB13 := hid (HB12.out.trans (hb13.mono s12))
                    have s13 := HB13.out.size
                    clear hb13
                    go_wp2_with fail
                    refine (drop_nil _).mono ?_
                    rintro e w14 ⟨rfl, rfl⟩
                    have y7 : ((i : Int) + 7).tdiv 8 = ((i : Int) + 7) / 8 := Int.tdiv_eq_ediv_of_nonneg (by omega)
                    go_wp2_with fail
                    refine HA13.out.live.mono ?_
                    rintro e w15 ⟨rfl, rfl⟩
                    go_wp2_with fail
                    refine (err_c _ _).mono ?_
                    rintro e w15 ⟨rfl, rfl⟩
                    go_wp2_with fail
                    refine HA13.out.mark.mono ?_
                    rintro e w15 ⟨rfl, rfl⟩
                    go_wp2_with fail
                    refine (err_c _ _).mono ?_
                    rintro e w15 ⟨rfl, rfl⟩
                    go_wp2_with fail
                    refine (err_c _ _).mono ?_
                    rintro e w15 ⟨rfl, rfl⟩
                    go_wp2_with fail
                    refine (mark_nil _).mono ?_
                    rintro e w15 ⟨rfl, rfl⟩
                    go_wp2_with fail
                    refine (len_nil _).mono ?_
                    rintro e w15 ⟨rfl, rfl⟩
                    go_wp2_with fail
                    refine (live_nil _).mono ?_
                    rintro e w15 ⟨rfl, rfl⟩
                    go_wp2_with fail
                    refine (awake_c _).mono ?_
                    rintro e w15 ⟨rfl, hb15⟩
                    go_wp2_with fail
                    go_ret
                    exact ⟨rfl, HB13.out.trans (hb15.mono s13)⟩
end Go.Proofs.Ytljbdmmidajmdaa.Pg
