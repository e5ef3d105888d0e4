/- The document's Reach: the walk. -/
import Derived.Test.YtljbdmmidajmdaaPg66
import Derived.Deep.OwnRows
import Derived.Deep.DeepCutAuto
import Derived.Deep.Cut
import Derived.Deep.CutRange
namespace Go.Proofs.Ytljbdmmidajmdaa.Pg
open Go.RowKit Go.Maps
attribute [local go_sem ↓] Go.wp_at_zero Go.wp_at_succ

/-- Which are marked, as a row. -/
def marksOf (n : Nat) (S : List Int) : List Value := (List.range (n + 1)).map (fun i => .bool (decide (((i : Nat) : Int) ∈ S)))
theorem marksOf_length (n : Nat) (S : List Int) : (marksOf n S).length = n + 1 := by simp [marksOf]
theorem marksOf_get {n i : Nat} {S : List Int} (h : i ≤ n) : (marksOf n S)[i]? = some (.bool (decide ((i : Int) ∈ S))) := by simp [marksOf, Nat.lt_succ_of_le h]
theorem marksOf_set {n i : Nat} {S : List Int} (h : i ≤ n) : (marksOf n S).set i (.bool true) = marksOf n (S ++ [(i : Int)]) := by
  apply List.ext_getElem?
  intro j
  rw [List.getElem?_set]
  by_cases hj : j ≤ n
  · split
    · rename_i e
      subst e
      rw [if_pos (by rw [marksOf_length]; omega), marksOf_get hj]
      simp
    · rename_i e
      rw [marksOf_get hj, marksOf_get hj]
      have : ((j : Int) = (i : Int)) = False := by simp; omega
      simp [this]
  · have h1 : (marksOf n S)[j]? = none := List.getElem?_eq_none (by rw [marksOf_length]; omega)
    have h2 : (marksOf n (S ++ [(i : Int)]))[j]? = none := List.getElem?_eq_none (by rw [marksOf_length]; omega)
    rw [h1, h2, if_neg (by omega)]
/-- The bools' row of one's own. -/
def Ins (w : World) (base gi n : Nat) (S : List Int) : Prop := w.ownsRow base 4 1 (.slice (some ⟨gi, 0, none⟩) (n + 1) (n + 1)) (n + 1) (marksOf n S)
theorem Ins.made (w : World) (n : Nat) (hn : n ≤ 100000) : (Instr.makeSlice 58 (.int .i64 ((n : Int) + 1)) (.int .i64 ((n : Int) + 1))).run Try.prog w = .ok (.slice (some ⟨w.heap.size, 0, none⟩) (n + 1) (n + 1)) (w.alloc (.cells (madeCells #[.bool false] (n + 1)) 4)) ∧
    Ins (w.alloc (.cells (madeCells #[.bool false] (n + 1)) 4)) w.heap.size w.heap.size n [] := by
  have h := run_make_row' 58 4 (.bool false) 1 Try.underlying58 infoBool rfl .i64 .i64 (n + 1) (by omega) (by omega) w
  rw [show (((n + 1 : Nat)) : Int) = (n : Int) + 1 by omega] at h
  refine ⟨h, by rw [marksOf_length, Nat.mul_one], .inr ⟨w.heap.size, n + 1, _, rfl, Nat.le_refl _, heap_alloc_new w _, Nat.le_refl _, by unfold maxLen; omega, by simp [madeCells], ?_⟩⟩
  rw [List.take_of_length_le (by simp [madeCells])]
  simp [madeCells, marksOf]
  intro a _
  rw [Nat.mod_one]
  rfl
section
variable {w w' : World} {base gi n : Nat} {S : List Int}
theorem Ins.move (h : Ins w base gi n S) (hb : w'.heap[gi]? = w.heap[gi]?) : Ins w' base gi n S := own_move h (fun k hk => by
  obtain rfl : gi = k := by simpa [Value.ownBlock] using hk
  exact hb)
theorem Ins.typ (h : Ins w base gi n S) : Typ w gi 4 ∧ base ≤ gi := own_typ h rfl
theorem Ins.below (h : Ins w base gi n S) (hb : Below w.heap.size w w') : Ins w' base gi n S := h.move (hb.block _ h.typ.1.lt)
theorem Ins.at_ (h : Ins w base gi n S) {i : Nat} (hi : i ≤ n) : w.cell? ⟨gi, i, none⟩ = some (.bool (decide ((i : Int) ∈ S))) := by
  have := h.cells (g := gi) rfl i _ (marksOf_get hi)
  rwa [show (⟨gi, 0, none⟩ : Addr).add i = ⟨gi, i, none⟩ by unfold Addr.add; split <;> simp_all] at this
theorem Ins.set (h : Ins w base gi n S) {i : Nat} (hi : i ≤ n) : Ins (w.setCell ⟨gi, i, none⟩ (.bool true)) base gi n (S ++ [(i : Int)]) := by
  have := (h.stored i (.bool true)).1
  rw [marksOf_set hi] at this
  exact this
end
theorem upTo_succ (k : Nat) : upTo 1 (k + 1) = upTo 1 k ++ [((k + 1 : Nat) : Int)] := by
  unfold upTo
  rw [show k + 1 + 1 - 1 = k + 1 by omega, show k + 1 - 1 = k by omega, List.range'_concat, List.map_append]
  simp [Nat.add_comm]
theorem Ins.frozenAt {w : World} {base gi n : Nat} {S : List Int} (h : Ins w base gi n S) (j : Nat) : w.frozen? ⟨gi, j, none⟩ = false := World.ownsRow.frozenAt h j
theorem OutV.kept {w w' : World} {base : Nat} {v : Value} {vs : List VD} (h : OutV w base v vs) {q : Nat} {T : TypeId} (hq : Typ w q T) (hT : 60 ≠ T) (hk : ∀ k, k < w.heap.size → k ≠ q → w'.heap[k]? = w.heap[k]?) : OutV w' base v vs :=
  own_move h (fun k hk' => hk k (h.lt k hk').2 (typ_ne (own_typ h hk').1 hq hT))

/-- What is handed back: all that is reached, ascending. -/
def FoundRow (w : World) (l : List CD) (roots : List VD) (e : Ending) (w' : World) : Prop := ∃ (v : Value) (M : List Int), e = .returned v ∧ M.Pairwise (· < ·) ∧ (∀ x, x ∈ M ↔ Reached l roots x) ∧ w'.ownsRow w.heap.size 3 1 v M.length (M.map encZ) ∧ Below w.heap.size w w'

set_option maxHeartbeats 12800000 in
set_option maxRecDepth 100000 in
theorem rreach_c {w : World} {A : Option Addr} {n cap : Nat} {l : List CD} {V : Value} {roots : List VD} (hn : n ≤ 1000) (hrl : roots.length ≤ 1000) (hvl : ∀ c ∈ l, c.vals.length ≤ 20) (h : CRow w.heap.size w A n l) (hv : RowR w.heap.size w 3 V (roots.map VD.row)) :
    Calls Try.prog 41 #[.slice A n cap, V] w (FoundRow w l roots) := by
  obtain ⟨A', rn, rc, rfl, -⟩ := id hv
  obtain ⟨hr1, hrm, hr0, hrc⟩ := hv.news
  have hl := h.len
  have H := hid h
  have HLn := hid hl
  have HRc := hid hrc
  have HR1 := hid hr1
  have HR0 := hid hr0
  have HVl := hid hvl
  have hrn : rn ≤ 1000 := by omega
  obtain ⟨hmk, hins⟩ := Ins.made w n (by omega)
  have hw1 := (Below.refl w.heap.size w).alloc (Nat.le_refl _) (.cells (madeCells #[.bool false] (n + 1)) 4)
  have hnw : IntKind.i64.wrap ((n : Int) + 1) = (n : Int) + 1 := IntWalk.i64_in _ (by omega)
  obtain ⟨i0, hi, hz0, hz1, hz2⟩ := info_parts infoVals
  have HI := hid hi
  obtain ⟨j0, hj, hy0, hy1, hy2⟩ := info_parts (show (Try.prog.info? 3).map (fun i => (i.zero, i.size, i.bytes)) = some (some (.int .i64 0), 1, 8) by kernel_rfl)
  have HJ := hid hj
  have HIns := hid hins
  have HW1 := hid hw1
  have hgi : w.heap.size < (w.alloc (.cells (madeCells #[.bool false] (n + 1)) 4)).heap.size := by simp
  clear h hv hr1 hrc hr0 hl hvl hi hj hins hw1 hrm
  go_enter Try.func41, Try.ntmps41
  go_upto_region 2 with fail
  clear hmk
  generalize w.alloc (.cells (madeCells #[.bool false] (n + 1)) 4) = w1 at HIns HW1 hgi ⊢
  have s1 := HW1.out.size
  have hw2 := (Below.refl w1.heap.size w1).alloc (Nat.le_refl _) (.cells #[] 60)
  have HMade := hid (World.ownsRow_made (base := w.heap.size) (e := 60) (size := 3) w1 #[] 0 s1 (Nat.zero_le _) rfl)
  have HNews := hid (fun ad e j u hj => keepc hw2 (keepc HW1.out (HRc.out ad e j u hj)))
  have HW2 := hid (HW1.out.trans (hw2.mono s1))
  have HLen := hid (show (flatV roots).length = rn * 3 by rw [flatV_length, HR1.out])
  have HOne := hid (flatV_one (vs := roots))
  have HIns2 := hid (HIns.out.below hw2)
  have HSz := hid (show w.heap.size ≤ (w1.alloc (.cells #[] 60)).heap.size by simp; omega)
  clear hw2
  go_wp2_with (at_builtin; refine wpList_copy _ rfl _ _ 29 rfl w.heap.size 60 i0 (.agg #[.int .i64 0, .int .i64 0, .string ByteArray.empty]) 3 32 Try.underlying29 HI.out hz0 hz1 hz2 rfl (by decide) w1.heap.size rfl HMade.out A' rn rc (flatV roots) rfl HLen.out HNews.out HR0.out HOne.out (by unfold maxLen; omega) (by omega) HSz.out ?_; intro g4 cp4 w4 hown hgrow hat hlt4; have HB4 := hid (HW2.out.grown hgrow HSz.out (fun y hy => by simp at hy; omega)); have HOut4 := hid (show OutV w4 w.heap.size (.slice (some ⟨g4, 0, none⟩) rn cp4) roots from by unfold OutV; rw [HR1.out]; exact hown); have HIns4 := hid (HIns2.out.move (hgrow.block w.heap.size (by simp; omega) (by simp; omega))); clear hown hgrow hat hlt4)
  go_loopw [6, 7] (fun v i wx => ∃ (k : Nat) (S : List Int) (T : List VD), k ≤ T.length ∧ i = .int .i64 k ∧ T.length ≤ rn + 21 * S.length ∧ Box (OutV wx w.heap.size v T) ∧ Box (Ins wx w.heap.size w.heap.size n S) ∧ Box (Marked l roots S T k) ∧ Box (Below w.heap.size w wx)) (fun _ i _ => rn + 21 * n - (RowKit.intOf i).toNat)
  case atStart => exact ⟨0, [], roots, by omega, rfl, by simp; rw [HR1.out]; omega, HOut4, HIns4, hid Marked.start, HB4⟩
  case round =>
    clear HOut4 HIns4 HB4
    obtain ⟨k, S, T, hk, rfl, hTl, HO, HIn, HM, HB⟩ := hrel
    have hSl : S.length ≤ n := by rw [← HLn.out]; exact HM.out.length
    obtain ⟨A6, c6, rfl⟩ := HO.out.slice
    have s2 := HB.out.size
    rcases Nat.lt_or_ge k T.length with hlt | hge
    · have hlt' : (k : Int) < T.length := by omega
      have hk0 : (0 : Int) ≤ k := by omega
      have hx : T[k]? = some T[k] := List.getElem?_eq_getElem hlt
      generalize T[k] = v at hx
      obtain ⟨A7, n7, c7, e7, -, -, -, -, hrow⟩ := (HO.out.row (B := w.heap.size))
      obtain ⟨rfl, rfl, rfl⟩ : A6 = A7 ∧ T.length = n7 ∧ c6 = c7 := by injection e7 with e1 e2 e3; exact ⟨e1, e2, e3⟩
      obtain ⟨b, o, rfl, _, hcell⟩ := hrow (by omega)
      have hc := (hcell k v.row (by rw [List.getElem?_map, hx]; rfl)).2
      have c0 := hc 0 _ rfl
      have c1 := hc 1 _ rfl
      have c2 := hc 2 _ rfl
      rw [Nat.add_zero] at c0
      rw [← Nat.add_assoc] at c1 c2
      have HX := hid hx
      clear hx hc hcell hrow e7
      go_upto_region 7 with fail
      have hbox := heap_alloc_new wr (.cells #[.int .i64 v.kind, .int .i64 v.n, .string v.s] 60)
      have hwv := (Below.refl wr.heap.size wr).alloc (Nat.le_refl _) (.cells #[.int .i64 v.kind, .int .i64 v.n, .string v.s] 60)
      have HOv := hid (HO.out.below hwv)
      have HInv := hid (HIn.out.below hwv)
      have HBv := hid (HB.out.trans (hwv.mono s2))
      have hgi2 : w.heap.size < wr.heap.size := HIn.out.typ.1.lt
      have HBx := hid hbox
      have hsv : wr.heap.size < (wr.alloc (.cells #[.int .i64 v.kind, .int .i64 v.n, .string v.s] 60)).heap.size := by simp
      clear c0 c1 c2 hbox hwv
      generalize wr.alloc (.cells #[.int .i64 v.kind, .int .i64 v.n, .string v.s] 60) = wv at HOv HInv HBv HBx hsv ⊢
      have b0 := cell_of_row wv wr.heap.size 0 _ _ _ HBx.out
      have b1 := cell_of_row wv wr.heap.size 1 _ _ _ HBx.out
      simp only [List.getElem?_toArray, List.getElem?_cons_zero, List.getElem?_cons_succ] at b0 b1
      go_cut [54] (fun t wx => wv = wx ∧ ∃ q : Bool, t = .bool q ∧ Box (q = true → aims l.length v → v.n ∈ S) ∧ Box (q = false → aims l.length v ∧ v.n ∉ S))
      case first =>
        by_cases hk56 : v.kind = 5 ∨ v.kind = 6
        · have hkk : ∃ p q : Bool, (v.kind != (5 : Int)) = p ∧ (v.kind != (6 : Int)) = q ∧ (p && q) = false := by
            rcases hk56 with h | h
            · exact ⟨false, true, by simp [h], by simp [h], rfl⟩
            · exact ⟨true, false, by simp [h], by simp [h], rfl⟩
          obtain ⟨p5, p6, h5, h6, hpq⟩ := hkk
          have HK := hid hk56
          clear hk56
          by_cases hn1 : v.n < 1
          · have hskip : Box (True → aims l.length v → v.n ∈ S) := hid (fun _ ha => absurd ha.2.1 (by omega))
            cases p5 <;> cases p6 <;> simp at hpq
            all_goals
              go_wp2_with fail
              go_meet
              exact ⟨rfl, true, rfl, hid (fun _ ha => absurd ha.2.1 (by omega)), hid (fun e => by cases e)⟩
          · by_cases hn2 : (n : Int) < v.n
            · cases p5 <;> cases p6 <;> simp at hpq
              all_goals
                go_wp2_with fail
                go_meet
                exact ⟨rfl, true, rfl, hid (fun _ ha => absurd ha.2.2 (by rw [HLn.out]; omega)), hid (fun e => by cases e)⟩
            · obtain ⟨m, hm⟩ : ∃ m : Nat, v.n = m := ⟨v.n.toNat, by omega⟩
              have hm1 : m ≤ n := by omega
              have hm1' : (m : Int) < (n : Int) + 1 := by omega
              have hm0' : (0 : Int) ≤ m := by omega
              have hm2 : ¬ (m : Int) < 1 := by omega
              have hm3 : ¬ (n : Int) < (m : Int) := by omega
              have ci := HInv.out.at_ hm1
              have HMm := hid hm
              rw [hm] at b1
              clear hm hn1 hn2
              by_cases hin : (m : Int) ∈ S
              · rw [show decide ((m : Int) ∈ S) = true by simpa using hin] at ci
                have HIn0 := hid hin
                clear hin
                cases p5 <;> cases p6 <;> simp at hpq
                all_goals
                  go_wp2_with fail
                  go_meet
                  exact ⟨rfl, true, rfl, hid (fun _ _ => by rw [HMm.out]; exact HIn0.out), hid (fun e => by cases e)⟩
              · rw [show decide ((m : Int) ∈ S) = false by simpa using hin] at ci
                have HIn0 := hid hin
                clear hin
                cases p5 <;> cases p6 <;> simp at hpq
                all_goals
                  go_wp2_with fail
                  go_meet
                  exact ⟨rfl, false, rfl, hid (fun e => by cases e), hid (fun _ => ⟨⟨HK.out, by rw [HMm.out]; omega, by rw [HMm.out, HLn.out]; omega⟩, by rw [HMm.out]; exact HIn0.out⟩)⟩
        · have h5 : (v.kind != (5 : Int)) = true := by rw [bne_iff_ne]; exact fun e => hk56 (.inl e)
          have h6 : (v.kind != (6 : Int)) = true := by rw [bne_iff_ne]; exact fun e => hk56 (.inr e)
          have HK := hid hk56
          clear hk56
          go_wp2_with fail
          go_meet
          exact ⟨rfl, true, rfl, hid (fun _ ha => absurd ha.1 HK.out), hid (fun e => by cases e)⟩
      case rest =>
        obtain ⟨rfl, q, rfl, Hq1, Hq2⟩ := hcut
        cases q with
        | true =>
          go_wp2_with fail
          go_roundw
          case rel => exact ⟨k + 1, S, T, by omega, by go_num, hTl, HOv, HInv, hid (HM.out.skip HX.out (Hq1.out rfl)), HBv⟩
          case measure => simp [RowKit.intOf]; omega
        | false =>
          have HA := hid (Hq2.out rfl)
          obtain ⟨mm, hmm⟩ : ∃ mm : Nat, v.n = (mm : Int) + 1 := ⟨(v.n - 1).toNat, by have := HA.out.1.2.1; omega⟩
          have hmn : mm < n := by have := HA.out.1.2.2; rw [HLn.out] at this; omega
          rw [hmm] at b1
          have ci := HInv.out.at_ (i := mm + 1) (by omega)
          have cf := HInv.out.frozenAt (mm + 1)
          have HMm := hid hmm
          have hci : l[mm]? = some (l[mm]'(by rw [HLn.out]; omega)) := List.getElem?_eq_getElem _
          generalize l[mm]'(by rw [HLn.out]; omega) = c at hci
          have HCi := hid hci
          have hm0 : (0 : Int) ≤ (mm : Int) + 1 := by omega
          have hm1 : (mm : Int) + 1 < (n : Int) + 1 := by omega
          have hm2 : (mm : Int) < n := by omega
          have hm3 : (0 : Int) ≤ mm := by omega
          have hmw : IntKind.i64.wrap ((mm : Int) + 1 - 1) = mm := by rw [show (mm : Int) + 1 - 1 = mm by omega]; exact IntWalk.i64_in _ (by omega)
          have hbs := HBv.out.setCell (p := ⟨w.heap.size, mm + 1, none⟩) (Nat.le_refl _) (.bool true)
          have HBs := hid hbs
          have hInS := hid (HInv.out.set (i := mm + 1) (by omega))
          have hOS := hid (HOv.out.kept (w' := wv.setCell ⟨w.heap.size, mm + 1, none⟩ (.bool true)) HInv.out.typ.1 (by decide) (fun k _ hne => set_ne _ hne))
          have hss : (wv.setCell ⟨w.heap.size, mm + 1, none⟩ (.bool true)).heap.size = wv.heap.size := by simp
          have hbxs := hid ((set_ne (w := wv) (i := mm + 1) (.bool true) (show wr.heap.size ≠ w.heap.size by omega)).trans HBx.out)
          clear hmm hci hbs b0
          go_upto_region 9 with fail
          generalize wv.setCell ⟨w.heap.size, mm + 1, none⟩ (.bool true) = ws at HBs hInS hOS hss hbxs ⊢
          obtain ⟨bL, oL, rfl, hcell⟩ := H.out.at_ _ c HCi.out
          obtain ⟨A3, n3, p3, A4, n4, p4, d0, d1, d2, d3, d4, br⟩ := hcell
          have d0 := keepc HBs.out d0
          have d1 := keepc HBs.out d1
          have d2 := keepc HBs.out d2
          have d3 := keepc HBs.out d3
          have d4 := keepc HBs.out d4
          have hn4 : n4 ≤ 20 := by rw [← (br.v).news.1]; exact HVl.out c (List.mem_of_getElem? HCi.out)
          have HR := hid (br.move (Fr.of_below HBs.out))
          have hvl := hid (leadVs_length (HVl.out c (List.mem_of_getElem? HCi.out)))
          have b1 := cell_of_row ws wr.heap.size 1 _ _ _ hbxs.out
          simp only [List.getElem?_toArray, List.getElem?_cons_zero, List.getElem?_cons_succ] at b1
          rw [HMm.out] at b1
          clear ci cf br
          go_wp2_with fail
          refine (rleads_c HR.out (by omega)).mono ?_
          rintro e w5 ⟨g5, cp5, rfl, hov5, hb5⟩
          have hs5 := HBs.out.size
          have HB5 := hid (HBs.out.trans (hb5.mono hs5))
          have HOut5 := hid (hOS.out.below hb5)
          have HIns5 := hid (hInS.out.below hb5)
          have HNw5 := hid (fun j u hj => hov5.cells (g := g5) rfl j u hj)
          have hlv := hvl.out
          have hTS : T.length ≤ 100000 := by omega
          have HSz5 := hid HB5.out.size
          clear hov5 hb5 d0 d1 d2 d3 d4 b1
          go_wp2_with (at_builtin; refine wpList_append_own _ rfl _ _ 29 rfl w.heap.size 60 i0 (.agg #[.int .i64 0, .int .i64 0, .string ByteArray.empty]) 3 32 Try.underlying29 HI.out hz0 hz1 hz2 rfl (by decide) (.slice (some ⟨b, o, none⟩) T.length c6) T.length (flatV T) ?c1 HOut5.out ⟨g5, 0, none⟩ (leadVs c).length cp5 (flatV (leadVs c)) ?c2 (flatV_length _) HNw5.out flatV_one ?c5 ?c6 HSz5.out ?_; (case c1 => rfl); (case c2 => rfl); (case c5 => unfold maxLen; omega); (case c6 => omega); intro v6 w6 hown hgrow hnil; have HB6 := hid (HB5.out.grown hgrow HSz5.out (fun y hy => (HOut5.out.lt y hy).1)); have HOut6 := hid (show OutV w6 w.heap.size v6 (T ++ leadVs c) by unfold OutV; rw [List.length_append, flatV_append]; exact hown); have HIns6 := hid (HIns5.out.move (hgrow.block w.heap.size HIns5.out.typ.1.lt (fun e => typ_ne HIns5.out.typ.1 (own_typ HOut5.out e.symm).1 (by decide) rfl))); clear hown hgrow hnil)
          go_roundw
          case rel => exact ⟨k + 1, S ++ [((mm + 1 : Nat) : Int)], T ++ leadVs c, by rw [List.length_append]; omega, by go_num, by rw [List.length_append, List.length_append, List.length_singleton]; omega, HOut6, HIns6, hid (by
            have := HM.out.mark HX.out HA.out.1 HA.out.2 (c := c) (by rw [HMm.out, show ((mm : Int) + 1 - 1).toNat = mm by omega]; exact HCi.out)
            rw [HMm.out, show (mm : Int) + 1 = ((mm + 1 : Nat) : Int) by omega] at this
            exact this), HB6⟩
          case measure => simp [RowKit.intOf]; omega
    · obtain rfl : k = T.length := by omega
      have HAll := hid (HM.out.all)
      go_wp2_with fail
      go_loopw [9, 10] (fun v i wx => ∃ k : Nat, k ≤ n ∧ i = .int .i64 ((k : Int) + 1) ∧ Box (wx.ownsRow w.heap.size 3 1 v ((upTo 1 k).filter (fun x => decide (x ∈ S))).length (((upTo 1 k).filter (fun x => decide (x ∈ S))).map encZ)) ∧ Box (Ins wx w.heap.size w.heap.size n S) ∧ Box (Below w.heap.size w wx)) (fun _ i _ => n + 1 - (RowKit.intOf i).toNat)
      case atStart => exact ⟨0, by omega, rfl, hid (World.ownsRow_nil _ _ _ _), HIn, HB⟩
      case round =>
        clear HO HIn HB
        obtain ⟨k, hk, rfl, HO, HIn, HB⟩ := hrel
        rcases Nat.lt_or_ge k n with hlt | hge
        · have hlt' : (k : Int) + 1 < (n : Int) + 1 := by omega
          have hk0 : (0 : Int) ≤ (k : Int) + 1 := by omega
          have ci := HIn.out.at_ (i := k + 1) (by omega)
          have hup : upTo 1 (k + 1) = upTo 1 k ++ [((k + 1 : Nat) : Int)] := upTo_succ k
          have HUp := hid hup
          have s3 := HB.out.size
          clear hup
          by_cases hin : (((k + 1 : Nat)) : Int) ∈ S
          · rw [show decide ((((k + 1 : Nat)) : Int) ∈ S) = true by simpa using hin] at ci
            have HI0 := hid hin
            clear hin
            have hb4 := (Below.refl wr.heap.size wr).alloc (Nat.le_refl _) (.cells #[.int .i64 ((k : Int) + 1)] 3)
            have HOwn := hid (HO.out.alloc (.cells #[.int .i64 ((k : Int) + 1)] 3))
            have HNews := hid (World.news_of_block (heap_alloc_new wr (.cells #[.int .i64 ((k : Int) + 1)] 3)))
            have HB4 := hid (HB.out.trans (hb4.mono s3))
            have HIn4 := hid (HIn.out.below hb4)
            have HSz := hid HB4.out.size
            have hfl : ((upTo 1 k).filter (fun x => decide (x ∈ S))).length ≤ k := Nat.le_trans (List.length_filter_le _ _) (by rw [upTo_length]; omega)
            clear hb4
            go_wp2_with (at_builtin; refine wpList_append_own _ rfl _ _ 45 rfl w.heap.size 3 j0 (.int .i64 0) 1 8 Try.underlying45 HJ.out hy0 hy1 hy2 rfl (by decide) u9 ((upTo 1 k).filter (fun x => decide (x ∈ S))).length (((upTo 1 k).filter (fun x => decide (x ∈ S))).map encZ) ?c1 HOwn.out ⟨wr.heap.size, 0, none⟩ 1 1 [.int .i64 ((k : Int) + 1)] ?c2 rfl ?c3 ?c4 ?c5 ?c6 HSz.out ?_; (case c1 => rfl); (case c2 => rfl); (case c3 => exact HNews.out); (case c4 => simp [Value.oneCell']); (case c5 => unfold maxLen; omega); (case c6 => omega); intro v6 w6 hown hgrow hnil; have HB6 := hid (HB4.out.grown hgrow HSz.out (fun y hy => (HOwn.out.lt y hy).1)); have HO6 := hid hown; have HIns6 := hid (HIn4.out.move (hgrow.block w.heap.size HIn4.out.typ.1.lt (fun e => typ_ne HIn4.out.typ.1 (own_typ HOwn.out e.symm).1 (by decide) rfl))); clear hown hgrow hnil)
            go_roundw
            case rel => exact ⟨k + 1, by omega, by go_num, hid (by rw [HUp.out, List.filter_append, List.map_append, List.length_append, List.filter_cons_of_pos (by simpa using HI0.out)]; exact HO6.out), HIns6, HB6⟩
            case measure => simp [RowKit.intOf]; omega
          · rw [show decide ((((k + 1 : Nat)) : Int) ∈ S) = false by simpa using hin] at ci
            have HI0 := hid hin
            clear hin
            go_wp2_with fail
            go_roundw
            case rel => exact ⟨k + 1, by omega, by go_num, hid (by rw [HUp.out, List.filter_append, List.filter_cons_of_neg (by simpa using HI0.out), List.filter_nil, List.append_nil]; exact HO.out), HIn, HB⟩
            case measure => simp [RowKit.intOf]; omega
        · obtain rfl : k = n := by omega
          have hge' : ¬ ((k : Int) + 1 < (k : Int) + 1) := by omega
          go_wp2_with fail
          go_ret
          refine ⟨u9, (upTo 1 k).filter (fun x => decide (x ∈ S)), rfl, (upTo_sorted 1 k).filter _, fun x => ?_, HO.out, HB.out⟩
          rw [List.mem_filter, mem_upTo, decide_eq_true_eq, ← HAll.out x]
          refine ⟨fun h => h.2, fun h => ⟨?_, h⟩⟩
          have := ((HAll.out x).1 h).bounds
          rw [HLn.out] at this
          omega
end Go.Proofs.Ytljbdmmidajmdaa.Pg
