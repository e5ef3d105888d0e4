/- The walk of PagesAlone. -/
import Derived.Test.YtljbdmmidajmdaaPg22
import Derived.OpenShut
import Derived.Laws.Rows
namespace Go.Proofs.Ytljbdmmidajmdaa.Pg
open Go.RowKit

/-- A slice of bytes that is only read. -/
structure U8Row (w : World) (A : Option Addr) (n : Nat) (f : Nat → Int) : Prop where
  le : n ≤ 9223372036854775807
  at_ : ∀ j, j < n → ∃ x, A = some x ∧ x.block < w.heap.size ∧ w.cell? (x.add j) = some (.int .u8 (f j)) ∧ 0 ≤ f j ∧ f j ≤ 255
theorem U8Row.none (w : World) : U8Row w none 0 (fun _ => 0) := ⟨by decide, fun j hj => absurd hj (by omega)⟩
theorem U8Row.some {w : World} {x : Addr} {n cap : Nat} {zs : List Int} (hl : n ≤ cap) (hm : cap ≤ maxLen) (hz : zs.length = cap) (hc : ∀ i, i < zs.length → w.cell? (x.add i) = some (.int .u8 (zs.getD i 0))) (hw : ∀ n ∈ zs, (Lit.int .u8 n).wf = true) :
    U8Row w (Option.some x) n (fun j => zs.getD j 0) := by
  unfold maxLen at hm
  refine ⟨by omega, fun j hj => ⟨x, rfl, ?_, hc j (by omega), ?_⟩⟩
  · have h := block_lt_of_cell (hc j (by omega))
    have e : (x.add j).block = x.block := by unfold Addr.add; split <;> rfl
    rwa [e] at h
  · have : zs.getD j 0 ∈ zs := by
      rw [List.getD_eq_getElem?_getD, List.getElem?_eq_getElem (by omega)]
      exact List.getElem_mem _
    exact bounds_u8 (hw _ this)
theorem add_block (x : Addr) (j : Nat) : (x.add j).block = x.block := by unfold Addr.add; split <;> rfl

set_option maxHeartbeats 3200000 in
set_option maxRecDepth 100000 in
theorem alone_c (n : Int) (hn0 : 0 ≤ n) (hn1 : n ≤ 255) (A : Option Addr) (len cap : Nat) (f : Nat → Int) (w : World) (hR : U8Row w A len f) :
    Calls Try.prog 7 #[.int .u8 n, .slice A len cap] w fun e w' => e = .returned (.bool true) ∧ Below w.heap.size w w' := by
  have HR := hid hR
  have hlen := hR.le
  clear hR
  have y0 : n.tmod 50 = n % 50 := Int.tmod_eq_emod_of_nonneg hn0
  obtain ⟨K, hK⟩ : ∃ K : Nat, 1 + n % 50 = (K : Int) := ⟨(1 + n % 50).toNat, by omega⟩
  have hK1 : 1 ≤ K := by omega
  have hK2 : K ≤ 50 := by omega
  go_enter Try.func7, Try.ntmps7
  go_wp2_with (go_at_call 13; refine (New (B := w.heap.size) (Nat.le_refl _)).mono ?_; rintro e w1 ⟨a, rfl, D, hF, hb, hf, -, hS⟩; have s1 := hb.size; have HF := hid hF; have HB := hid hb; have HS := hid hS; clear hF hb hS)
  refine (New (B := w.heap.size) s1).mono ?_
  rintro e w2 ⟨b, rfl, E, hF2, hb2, hf2, -, hS2⟩
  have HP := hid (show Pair w.heap.size w2 a [] b [] from ⟨D, [], E, [], ⟨HF.out.below hb2, hF2, fun k hk hk' => by have := (HF.out.foot_lt hk).1; have := hf2 k hk'; omega⟩, HS.out, hS2⟩)
  have HB2 := hid (HB.out.trans (hb2.mono s1))
  clear HF HB HS hF2 hb2 hf2 hS2 hf s1
  go_wp2_with fail
  go_loopw [8] (fun i wr => ∃ k : Nat, k ≤ K ∧ i = .int .i64 k ∧ Box (Below w.heap.size w wr) ∧ Box (Pair w.heap.size wr a (counted 1 k) b (counted 3 k))) (fun i _ => K - (intOf i).toNat)
  case atStart => exact ⟨0, by omega, rfl, HB2, HP⟩
  case round =>
    clear HP HB2
    obtain ⟨k, hk, rfl, HB, HP⟩ := hrel
    have s1 := HB.out.size
    rcases Nat.lt_or_ge k K with hlt | hge
    · have hlt' : (k : Int) < K := by omega
      have HL := hid (counted_length 1 k)
      have HL3 := hid (counted_length 3 k)
      have hk4 : k < 4096 := by omega
      go_wp2_with fail
      refine (HP.out.add s1 (by rw [HL.out]; exact hk4) (c := ⟨1, k, 0, [], []⟩) (noReads _ _ _) (noSmall _ _ _)).mono ?_
      rintro e w3 ⟨rfl, hs2, hb2⟩
      rw [counted_succ] at hs2
      have HP2 := hid hs2
      have HB2 := hid (HB.out.trans hb2)
      clear hs2 hb2
      go_wp2_with fail
      have s2 := HB2.out.size
      refine (HP2.out.swap.add s2 (by rw [HL3.out]; exact hk4) (c := ⟨3, k, 0, [], []⟩) (noReads _ _ _) (noSmall _ _ _)).mono ?_
      rintro e w4 ⟨rfl, hs3, hb3⟩
      rw [counted_succ] at hs3
      have HP3 := hid hs3.swap
      have HB3 := hid (HB2.out.trans hb3)
      clear hs3 hb3
      go_wp2_with fail
      go_roundw
      case rel => exact ⟨k + 1, by omega, by go_num, HB3, HP3⟩
      case measure => simp [intOf]; omega
    · obtain rfl : k = K := by omega
      have HL3 := hid (counted_length 3 k)
      have HL := hid (counted_length 1 k)
      have HC := hid (fun (i : Nat) (h : i < k) => counted_at 3 h)
      generalize counted 3 k = lb at HP HL3 HC
      generalize counted 1 k = la at HP HL
      go_wp2_with fail
      go_loopw [9] (fun i wr => ∃ j : Nat, j ≤ len ∧ i = .int .i64 j ∧ Box (Below w.heap.size w wr) ∧ Box (∃ la, la.length = k ∧ Pair w.heap.size wr a la b lb)) (fun i _ => len - (intOf i).toNat)
      case atStart => exact ⟨0, by omega, rfl, HB, hid ⟨la, HL.out, HP.out⟩⟩
      case round =>
        clear HB HP HL s1 la
        obtain ⟨j, hj, rfl, HB, HP⟩ := hrel
        have s1 := HB.out.size
        by_cases hin : j < len ∧ j < 50
        · obtain ⟨hj1, hj2⟩ := hin
          have hj1' : (j : Int) < len := by omega
          have hj2' : (j : Int) < 50 := by omega
          obtain ⟨x, rfl, hx1, hx2, hx3, hx4⟩ := HR.out.at_ j hj1
          have hx5 := (HB.out.cell (p := x.add j) (by rw [add_block]; exact hx1)).trans hx2
          have hk0 : ¬ ((k : Int) = 0) := by omega
          have hm : (f j).tmod k = f j % k := Int.tmod_eq_emod_of_nonneg hx3
          have hm0 : 0 ≤ f j % (k : Int) := Int.emod_nonneg _ hk0
          have hm1 : f j % (k : Int) < k := Int.emod_lt_of_pos _ (by omega)
          obtain ⟨la, hla, hP⟩ := HP.out
          have HP1 := hid hP
          have HLA := hid hla
          have HM := hid (show (f j % (k : Int)).toNat < la.length by rw [hla]; omega)
          clear hP hla hx2
          go_wp2_with fail
          refine (HP1.out.set s1 hm0 HM.out (c := ⟨2, 0, 0, [], []⟩) (noReads _ _ _) (noSmall _ _ _)).mono ?_
          rintro e w3 ⟨rfl, hs2, hb2⟩
          have HP2 := hid (show ∃ la, la.length = k ∧ Pair w.heap.size w3 a la b lb from ⟨_, by rw [List.length_set]; exact HLA.out, hs2⟩)
          have HB2 := hid (HB.out.trans hb2)
          clear hs2 hb2
          go_wp2_with fail
          go_roundw
          case rel => exact ⟨j + 1, by omega, by go_num, HB2, HP2⟩
          case measure => simp [intOf]; omega
        · have hor : (len : Int) ≤ j ∨ ((j : Int) < len ∧ (50 : Int) ≤ j) := by omega
          rcases hor with hor | ⟨hor, hor2⟩
          all_goals
            go_wp2_with fail
            go_loopw [10] (fun i wr => ∃ j : Nat, j ≤ k ∧ i = .int .i64 j ∧ Box (Below w.heap.size w wr) ∧ Box (∃ la, la.length = k ∧ Pair w.heap.size wr a la b lb)) (fun i _ => k - (intOf i).toNat)
            case atStart => exact ⟨0, by omega, rfl, HB, HP⟩
            case round =>
              clear HB HP s1 hor
              obtain ⟨i, hi, rfl, HB, HP⟩ := hrel
              have s1 := HB.out.size
              obtain ⟨la, hla, hP⟩ := HP.out
              have HP1 := hid hP
              have HLA := hid hla
              clear hP hla HP
              rcases Nat.lt_or_ge i k with hlt | hge
              · have hlt' : (i : Int) < k := by omega
                have hi0 : 0 ≤ (i : Int) := by omega
                have HG := hid (HC.out i hlt)
                go_wp2_with fail
                refine (HP1.out.swap.get s1 (k := (i : Int)) hi0 (c := ⟨3, i, 0, [], []⟩) (by rw [Int.toNat_natCast]; exact HG.out)).mono ?_
                rintro e w3 ⟨A, m, cap, A', m', cap', rfl, hb3, -⟩
                have s3 := hb3.size
                have HB3 := hid hb3
                clear hb3
                go_wp2_with fail
                go_roundw
                case rel =>
                  have hb4 := HB3.out.alloc s3 (.cells #[.int .i64 3, .int .i64 i, .int .i64 0, .slice A m cap, .slice A' m' cap'] 31)
                  exact ⟨i + 1, by omega, by go_num, hid (HB.out.trans (hb4.mono s1)), hid ⟨la, HLA.out, HP1.out.below hb4⟩⟩
                case measure => simp [intOf]; omega
              · obtain rfl : i = k := by omega
                go_wp2_with fail
                refine (HP1.out.mark s1).mono ?_
                rintro e w3 ⟨m, rfl, hB3, hb3⟩
                have HB3 := hid (HB.out.trans hb3)
                have s3 := HB3.out.size
                have HO := hid hB3
                clear hB3 hb3
                go_wp2_with fail
                refine (HO.out.drop s3).mono ?_
                rintro e w4 ⟨rfl, hL4, hb4⟩
                have HB4 := hid (HB3.out.trans hb4)
                have s4 := HB4.out.size
                have HO4 := hid hL4
                clear hL4 hb4
                go_wp2_with fail
                refine (HO4.out.set s4 (k := 0) (by decide) (by rw [HLA.out]; simp; omega) (c := ⟨5, 0, 0, [], []⟩) (noReads _ _ _) (noSmall _ _ _)).mono ?_
                rintro e w5 ⟨rfl, hL5, hb5⟩
                have HB5 := hid (HB4.out.trans hb5)
                have s5 := HB5.out.size
                have HO5 := hid hL5
                have HN1 := hid (show (((la.set (0 : Int).toNat ⟨5, 0, 0, [], []⟩).length : Nat) : Int) = (i : Int) by rw [List.length_set, HLA.out])
                have HN2 := hid (show ((((la.set (0 : Int).toNat ⟨5, 0, 0, [], []⟩).length + 7) / 8 : Nat) : Int) = ((i : Int) + 7) / 8 by rw [List.length_set, HLA.out]; omega)
                have HN3 := hid (show (((lb.length + 7) / 8 : Nat) : Int) = ((i : Int) + 7) / 8 by rw [HL3.out]; omega)
                have hd : ((i : Int) + 7).tdiv 8 = ((i : Int) + 7) / 8 := Int.tdiv_eq_ediv_of_nonneg (by omega)
                generalize la.set (0 : Int).toNat ⟨5, 0, 0, [], []⟩ = lc at HO5 HN1 HN2
                clear hL5 hb5
                go_wp2_with fail
                refine (HO5.out.live HN2.out).mono ?_
                rintro e w' ⟨rfl, rfl⟩
                go_wp2_with fail
                refine (HO5.out.liveB HN3.out).mono ?_
                rintro e w' ⟨rfl, rfl⟩
                go_wp2_with fail
                refine (HO5.out.len HN1.out).mono ?_
                rintro e w' ⟨rfl, rfl⟩
                go_wp2_with fail
                refine (HO5.out.lenA).mono ?_
                rintro e w' ⟨rfl, rfl⟩
                go_wp2_with fail
                refine (awake_c _).mono ?_
                rintro e w6 ⟨rfl, hb6⟩
                have HB6 := hid (HB5.out.trans (hb6.mono s5))
                clear hb6
                go_wp2_with fail
                go_ret
                exact ⟨rfl, HB6.out⟩
end Go.Proofs.Ytljbdmmidajmdaa.Pg
