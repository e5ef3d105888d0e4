/- Where any roots lead to among any cells is the document's: the walk. -/
import Derived.Test.YtljbdmmidajmdaaPg67
import Derived.Test.YtljbdmmidajmdaaPg61
namespace Go.Proofs.Ytljbdmmidajmdaa.Pg
open Go.RowKit Go.Maps
attribute [local go_sem ↓] Go.wp_at_zero Go.wp_at_succ

theorem row_shape {w : World} {base : Nat} {v : Value} {M : List Int} (h : w.ownsRow base 3 1 v M.length (M.map encZ)) : ∃ A c, v = .slice A M.length c := by
  rcases h.2 with ⟨e, e2⟩ | ⟨g, c, cur, e, _⟩
  · have : M = [] := by simpa using e2
    subst this
    exact ⟨none, 0, e⟩
  · exact ⟨_, _, e⟩

set_option maxHeartbeats 3200000 in
set_option maxRecDepth 100000 in
theorem sameInts_c {w : World} {base base' : Nat} {A A' : Option Addr} {c c' : Nat} {M : List Int} (hm : M.length ≤ 100000) (h : w.ownsRow base 3 1 (.slice A M.length c) M.length (M.map encZ)) (h' : w.ownsRow base' 3 1 (.slice A' M.length c') M.length (M.map encZ)) :
    Calls Try.prog 40 #[.slice A M.length c, .slice A' M.length c'] w fun e w' => e = .returned (.bool true) ∧ Below w.heap.size w w' := by
  obtain ⟨m, hml⟩ : ∃ m, M.length = m := ⟨_, rfl⟩
  rw [hml] at h h' hm ⊢
  have H := hid h
  have H' := hid h'
  have HM := hid hml
  clear h h' hml
  go_enter Try.func40, Try.ntmps40
  go_wp2_with fail
  go_loopw [5] (fun i wx => ∃ k : Nat, k ≤ m ∧ i = .int .i64 k ∧ Box (Below w.heap.size w wx)) (fun i _ => m - (RowKit.intOf i).toNat)
  case atStart => exact ⟨0, by omega, rfl, hid (Below.refl _ _)⟩
  case round =>
    obtain ⟨k, hk, rfl, HB⟩ := hrel
    rcases Nat.lt_or_ge k m with hlt | hge
    · have hlt' : (k : Int) < m := by omega
      have hk0 : (0 : Int) ≤ k := by omega
      obtain ⟨g, rfl, k1⟩ := own_at H.out hlt
      obtain ⟨g', rfl, k2⟩ := own_at H'.out hlt
      have hx : M[k]? = some (M[k]'(by rw [HM.out]; exact hlt)) := List.getElem?_eq_getElem _
      generalize M[k]'(by rw [HM.out]; exact hlt) = x at hx
      have c0 := keepc HB.out (k1 k (.int .i64 x) (by rw [List.getElem?_map, hx]; rfl))
      have c1 := keepc HB.out (k2 k (.int .i64 x) (by rw [List.getElem?_map, hx]; rfl))
      clear k1 k2 hx
      go_wp2_with fail
      go_region_held3 (fun w' => w'.cell? ⟨g, k, none⟩ = some (.int .i64 x) ∧ w'.cell? ⟨g', k, none⟩ = some (.int .i64 x)) (go_keep) (fail)
      go_wp2_with fail
      clear c0 c1
      go_roundw
      case rel => exact ⟨k + 1, by omega, by go_num, hid HB.out.drew⟩
      case measure => simp [RowKit.intOf]; omega
    · obtain rfl : k = m := by omega
      go_wp2_with fail
      go_ret
      exact ⟨rfl, HB.out⟩

set_option maxHeartbeats 6400000 in
set_option maxRecDepth 100000 in
theorem hreach_c (A : Option Addr) (n cap : Nat) (l : List CD) (A' : Option Addr) (n' cap' : Nat) (roots : List VD) (W : World) (hm : n ≤ maxLen) (h : CRow W.heap.size W A n l) (hv : RowR W.heap.size W 3 (.slice A' n' cap') (roots.map VD.row)) :
    Calls Try.prog 12 #[.slice A n cap, .slice A' n' cap'] W fun e w' => e = .returned (.bool true) ∧ Below W.heap.size W w' := by
  obtain ⟨hr1, hrm, -, -⟩ := hv.news
  unfold maxLen at hm hrm
  have H := hid h
  have HV := hid hv
  have HR1 := hid hr1
  have HL := hid h.len
  clear h hv hr1
  go_enter Try.func12, Try.ntmps12
  by_cases h60 : (60 : Int) < n
  · go_wp2_with fail
    refine (hawake_c W).mono ?_
    rintro e w1 ⟨rfl, hb⟩
    go_wp2_with fail
    go_ret
    exact ⟨rfl, hb⟩
  · by_cases h20 : (20 : Int) < n'
    · go_wp2_with fail
      refine (hawake_c W).mono ?_
      rintro e w1 ⟨rfl, hb⟩
      go_wp2_with fail
      go_ret
      exact ⟨rfl, hb⟩
    · go_wp2_with fail
      go_loopw [5] (fun i wx => ∃ k : Nat, k ≤ n ∧ i = .int .i64 k ∧ wx = W ∧ Box (∀ j c, j < k → l[j]? = some c → c.vals.length ≤ 20)) (fun i _ => n - (RowKit.intOf i).toNat)
      case atStart => exact ⟨0, by omega, rfl, rfl, hid (fun j c hj => absurd hj (by omega))⟩
      case round =>
        obtain ⟨k, hk, rfl, rfl, HN⟩ := hrel
        rcases Nat.lt_or_ge k n with hlt | hge
        · have hlt' : (k : Int) < n := by omega
          have hk0 : (0 : Int) ≤ k := by omega
          have hx : l[k]? = some (l[k]'(by rw [HL.out]; exact hlt)) := List.getElem?_eq_getElem _
          generalize l[k]'(by rw [HL.out]; exact hlt) = c at hx
          obtain ⟨b, o, rfl, A1, n1, p1, A2, n2, p2, c0, c1, c2, c3, c4, br⟩ := H.out.at_ k c hx
          have hvl := br.v.news.1
          have hvm : n2 ≤ 9223372036854775807 := by have := br.v.news.2.1; unfold maxLen at this; omega
          have HX := hid hx
          have HVl := hid hvl
          clear hx hvl br
          by_cases hbig : (20 : Int) < n2
          · go_wp2_with fail
            refine (hawake_c _).mono ?_
            rintro e w1 ⟨rfl, hb⟩
            go_wp2_with fail
            go_ret
            exact ⟨rfl, hb⟩
          · go_wp2_with fail
            go_roundw
            case rel =>
              refine ⟨k + 1, by omega, by go_num, trivial, hid (fun j d hj hd => ?_)⟩
              rcases Nat.lt_or_ge j k with q | q
              · exact HN.out j d q hd
              · obtain rfl : j = k := by omega
                obtain rfl := Option.some.inj (HX.out.symm.trans hd)
                rw [HVl.out]; omega
            case measure => simp [RowKit.intOf]; omega
        · obtain rfl : k = n := by omega
          have HVL := hid (show ∀ c ∈ l, c.vals.length ≤ 20 from fun c hc => by
            obtain ⟨j, hj⟩ := List.getElem?_of_mem hc
            exact HN.out j c (by rw [← HL.out]; exact (List.getElem?_eq_some_iff.1 hj).1) hj)
          go_wp2_with fail
          refine (reach_c (by omega) H.out HV.out).mono ?_
          rintro e w1 ⟨v, L, rfl, h1, h2, h3, h4⟩
          have HMem := hid h1
          have HNd := hid h2
          have HRow := hid h3
          have HB1 := hid h4
          have HC1 := hid ((H.out.below h4).up)
          have HV1 := hid ((HV.out.move (Fr.of_below h4)).up)
          clear h1 h2 h3 h4
          go_wp2_with fail
          refine (rreach_c (by omega) (by rw [HR1.out]; omega) HVL.out HC1.out HV1.out).mono ?_
          rintro e w2 ⟨v2, M, rfl, h5, h6, h7, h8⟩
          obtain ⟨e1, e2⟩ := sorted_is HNd.out h5 (fun x => (HMem.out x).trans (h6 x).symm)
          have h9 := own_move HRow.out (fun k hk => h8.block k (HRow.out.lt k hk).2)
          rw [e1, e2] at h9
          obtain ⟨Aa, ca, rfl⟩ := row_shape h9
          obtain ⟨Ab, cb, rfl⟩ := row_shape h7
          have hML : M.length ≤ 100000 := by
            have := length_le_of (n := l.length) (L := M) (h5.imp (fun h e => by omega)) (fun x hx => ((h6 x).1 hx).bounds)
            rw [HL.out] at this
            omega
          have H9 := hid h9
          have H7 := hid h7
          have HB2 := hid (HB1.out.trans (h8.mono HB1.out.size))
          clear h5 h6 h7 h8 h9 e1 e2
          go_wp2_with fail
          refine (sameInts_c hML H9.out H7.out).mono ?_
          rintro e w3 ⟨rfl, hb3⟩
          have HB3 := hid (HB2.out.trans (hb3.mono HB2.out.size))
          clear hb3
          go_wp2_with fail
          refine (hawake_c _).mono ?_
          rintro e w4 ⟨rfl, hb4⟩
          have HB4 := hid (HB3.out.trans (hb4.mono HB3.out.size))
          clear hb4
          go_wp2_with fail
          go_ret
          exact ⟨rfl, HB4.out⟩
end Go.Proofs.Ytljbdmmidajmdaa.Pg
