/- Are the books as the document has them? They are. -/
import Derived.Test.YtljbdmmidajmdaaPg51
import Derived.Test.YtljbdmmidajmdaaPg35
namespace Go.Proofs.Ytljbdmmidajmdaa.Pg
open Go.RowKit
attribute [local go_sem ↓] Go.wp_at_zero Go.wp_at_succ

/-- The books and the document's, one for one. -/
structure Twin (B : Nat) (w : World) (D : FD) (bs : List Nat) (S : List SB) (fb g cap : Nat) (R : List RB) (next : Nat) (f : Nat → Nat) (rg rcap : Nat) : Prop where
  base : B ≤ w.heap.size
  fam : Fam B w D
  bks : Books D bs S
  rf : RF B w D fb g cap R next
  mt : Match S R next f
  row : Row B w D 23 1 rg bs.length rcap (bs.map ptr)
  small : bs.length ≤ 6

section
variable {B : Nat} {w w' : World} {D : FD} {bs : List Nat} {S : List SB} {fb g cap : Nat} {R : List RB} {next : Nat} {f : Nat → Nat} {rg rcap : Nat}
theorem Twin.below (h : Twin B w D bs S fb g cap R next f rg rcap) (hb : Below w.heap.size w w') : Twin B w' D bs S fb g cap R next f rg rcap :=
  ⟨Nat.le_trans h.base hb.size, h.fam.below hb, h.bks, h.rf.below hb, h.mt, h.row.below hb, h.small⟩
theorem Twin.rlen (h : Twin B w D bs S fb g cap R next f rg rcap) : R.length = bs.length := h.mt.len.trans h.bks.len.symm
theorem Twin.at_ (h : Twin B w D bs S fb g cap R next f rg rcap) {k : Nat} (hk : k < bs.length) : ∃ b s x, bs[k]? = some b ∧ S[k]? = some s ∧ R[k]? = some x ∧ s ∈ S ∧ x.cells = s.cells ∧ x.gone = s.gone ∧ x.pgs = s.pgs.map f := by
  have h1 : S[k]? = some (S[k]'(by rw [← h.bks.len]; exact hk)) := List.getElem?_eq_getElem _
  have h2 : R[k]? = some (R[k]'(by rw [h.rlen]; exact hk)) := List.getElem?_eq_getElem _
  exact ⟨bs[k], _, _, List.getElem?_eq_getElem _, h1, h2, List.mem_of_getElem? h1, h.mt.bk k _ _ h1 h2⟩
theorem Twin.ids (h : Twin B w D bs S fb g cap R next f rg rcap) : distinct (Pg.ids R) = distinct (allPgs S) ∧ (Pg.ids R).length ≤ 1000000 := by
  refine ⟨h.mt.live, ?_⟩
  rw [h.mt.ids, List.length_map]
  have := h.bks.small (by rw [← h.bks.len]; have := h.small; omega)
  omega

theorem Get_noIs {i b : Nat} {s : SB} (h : Fam B w D) (hS : Books D bs S) (hb : bs[i]? = some b) (hs : S[i]? = some s) (k : Int) (hk : k < 0 ∨ ((s.cells.length : Nat) : Int) ≤ k) :
    Calls Try.prog 15 #[ptr b, .int .i64 k] w fun e w' => e = .returned (.tuple #[.agg #[.int .i64 0, .int .i64 0, .int .i64 0, .slice none 0 0, .slice none 0 0], .int .i64 2]) ∧ Below w.heap.size w w' := Get_no h hS hb hs k hk

set_option maxHeartbeats 6400000 in
set_option maxRecDepth 100000 in
theorem like_c (h : Twin B w D bs S fb g cap R next f rg rcap) :
    Calls Try.prog 27 #[.slice (some ⟨rg, 0, none⟩) bs.length rcap, .pointer (some ⟨fb, 0, none⟩)] w fun e w' => e = .returned (.bool true) ∧ Below w.heap.size w w' := by
  have hsm := h.small
  have hrl := h.rlen
  have HRL := hid hrl
  have hrs := h.rf.small
  unfold maxLen at hrs
  have H := hid h
  clear h hrl
  go_enter Try.func27, Try.ntmps27
  go_wp2_with fail
  go_loopw [5] (fun i wx => ∃ k : Nat, k ≤ bs.length ∧ i = .int .i64 k ∧ Box (Below w.heap.size w wx)) (fun i _ => bs.length - (intOf i).toNat)
  case atStart => exact ⟨0, by omega, rfl, hid (Below.refl _ _)⟩
  case round =>
    obtain ⟨k, hk, rfl, HB⟩ := hrel
    rcases Nat.lt_or_ge k bs.length with hlt | hge
    · have hlt' : (k : Int) < (bs.length : Nat) := by omega
      have hltR : (k : Int) < (R.length : Nat) := by rw [HRL.out]; omega
      have T := hid (H.out.below HB.out)
      obtain ⟨b, s, x, hb, hs, hx, hsm', hxc, hxg, hxp⟩ := T.out.at_ hlt
      have hwf := T.out.bks.wf s hsm'
      have hn := hwf.n
      obtain ⟨A, p, A', p', d0, d1, d2, e1, e2, e3, e4, -⟩ := H.out.rf.at_ hx
      rw [hxc] at d0 e1 e4
      have d0 := keepc HB.out d0
      have c0 := T.out.rf.c0
      have r0 := T.out.row.at_ (j := k) (u := ptr b) (by rw [List.getElem?_map, hb]; rfl)
      unfold maxLen at e2
      have HBs := hid hb
      have HSs := hid hs
      have HXs := hid hx
      have E4 := hid e4
      clear hb hs hx hxc hxg hxp d1 d2 e4 hsm' hwf e3
      go_wp2_with fail
      refine (Len T.out.fam T.out.bks HBs.out HSs.out).mono ?_
      rintro e w1 ⟨rfl, rfl⟩
      go_wp2_with fail
      refine (Live T.out.fam T.out.bks HBs.out HSs.out).mono ?_
      rintro e w1 ⟨rfl, rfl⟩
      go_wp2_with fail
      refine (rlive_c T.out.rf T.out.ids.2).mono ?_
      rintro e w1 ⟨rfl, hb1⟩
      rw [T.out.ids.1]
      have HB1 := hid (HB.out.trans (hb1.mono HB.out.size))
      clear hb1 c0 d0 r0
      go_wp2_with fail
      go_loopw [7] (fun v wx => ∃ i : Int, -1 ≤ i ∧ i ≤ (s.cells.length : Nat) + 1 ∧ v = .int .i64 i ∧ Box (Below w.heap.size w wx)) (fun v _ => ((s.cells.length : Nat) + 1 - intOf v).toNat)
      case atStart => exact ⟨-1, by omega, by omega, rfl, HB1⟩
      case round =>
        obtain ⟨i, hi1, hi2, rfl, HBr⟩ := hrel
        have T2 := hid (H.out.below HBr.out)
        rcases Int.lt_or_le (s.cells.length : Nat) i with hgt | hle
        · go_wp2_with fail
          go_roundw
          case rel => exact ⟨k + 1, by omega, by go_num, HBr⟩
          case measure => simp [intOf]; omega
        · have r1 := T2.out.row.at_ (j := k) (u := ptr b) (by rw [List.getElem?_map, HBs.out]; rfl)
          by_cases hend : i < 0 ∨ i = (s.cells.length : Nat)
          · go_wp2_with fail
            refine (Get_noIs T2.out.fam T2.out.bks HBs.out HSs.out i (by omega)).mono ?_
            rintro e w3 ⟨rfl, hb3⟩
            have HB3 := hid (HBr.out.trans (hb3.mono HBr.out.size))
            clear hb3 r1
            rcases hend with h0 | h0
            · go_wp2_with fail
              refine (err_c 2 _).mono ?_
              rintro e w4 ⟨rfl, rfl⟩
              go_wp2_with fail
              go_roundw
              case rel => exact ⟨i + 1, by omega, by omega, by go_num, hid (HB3.out.alloc HB3.out.size _)⟩
              case measure => simp [intOf]; omega
            · subst h0
              have h1 : ¬ ((s.cells.length : Nat) : Int) < 0 := by omega
              go_wp2_with fail
              refine (err_c 2 _).mono ?_
              rintro e w4 ⟨rfl, rfl⟩
              go_wp2_with fail
              go_roundw
              case rel => exact ⟨((s.cells.length : Nat) : Int) + 1, by omega, by omega, by go_num, hid (HB3.out.alloc HB3.out.size _)⟩
              case measure => simp [intOf]
          · have h0 : 0 ≤ i := by omega
            have h1 : i < (s.cells.length : Nat) := by omega
            have h2 : (i == ((s.cells.length : Nat) : Int)) = false := by rw [beq_eq_false_iff_ne]; omega
            have h3 : ¬ i < 0 := by omega
            clear hend
            have hc : s.cells[i.toNat]? = some (s.cells[i.toNat]'(by omega)) := List.getElem?_eq_getElem _
            generalize s.cells[i.toNat]'(by omega) = c at hc
            have HC := hid hc
            clear hc
            go_wp2_with fail
            refine (GetIs T2.out.fam T2.out.base T2.out.bks HBs.out HSs.out i h0 HC.out).mono ?_
            rintro e w3 ⟨A5, n5, p5, A6, n6, p6, rfl, hb3, hr3⟩
            have HB3 := hid (HBr.out.trans (hb3.mono HBr.out.size))
            have HR3 := hid hr3
            clear hb3 hr3 r1
            go_upto_region 14 with (first | (go_at_call 16; refine (err_c 0 _).mono ?_; rintro e w4 ⟨rfl, rfl⟩))
            have HBc := hid (HB3.out.alloc HB3.out.size (.cells #[.int .i64 c.kind, .int .i64 c.a, .int .i64 c.b, .slice A5 n5 p5, .slice A6 n6 p6] 31))
            have hbx := heap_alloc_new w3 (.cells #[.int .i64 c.kind, .int .i64 c.a, .int .i64 c.b, .slice A5 n5 p5, .slice A6 n6 p6] 31)
            have AR := hid ((HR3.out.move (Fr.alloc (.cells #[.int .i64 c.kind, .int .i64 c.a, .int .i64 c.b, .slice A5 n5 p5, .slice A6 n6 p6] 31))).move (Fr.of_below (Below.refl _ _).drew))
            obtain ⟨b1, o1, rfl, hcc⟩ := (E4.out.below HBc.out).at_ i.toNat c HC.out
            obtain ⟨A3, n3, p3, A4, n4, p4, b0, b1', b2, b3, b4, br⟩ := hcc
            have BR := hid (br.move (Fr.of_below (Below.refl _ _).drew))
            have a0 := cell_of_row _ _ 0 _ _ _ hbx
            have a1 := cell_of_row _ _ 1 _ _ _ hbx
            have a2 := cell_of_row _ _ 2 _ _ _ hbx
            have a3 := cell_of_row _ _ 3 _ _ _ hbx
            have a4 := cell_of_row _ _ 4 _ _ _ hbx
            simp only [List.getElem?_toArray, List.getElem?_cons_zero, List.getElem?_cons_succ] at a0 a1 a2 a3 a4
            clear hbx br
            go_region_held3 (fun w' => w'.cell? ⟨w3.heap.size, 0, none⟩ = some (.int .i64 c.kind) ∧ w'.cell? ⟨w3.heap.size, 1, none⟩ = some (.int .i64 c.a) ∧ w'.cell? ⟨w3.heap.size, 2, none⟩ = some (.int .i64 c.b) ∧ w'.cell? ⟨w3.heap.size, 3, none⟩ = some (.slice A5 n5 p5) ∧ w'.cell? ⟨w3.heap.size, 4, none⟩ = some (.slice A6 n6 p6) ∧ w'.cell? ⟨b1, o1 + i.toNat * 5, none⟩ = some (.int .i64 c.kind) ∧ w'.cell? ⟨b1, o1 + i.toNat * 5 + 1, none⟩ = some (.int .i64 c.a) ∧ w'.cell? ⟨b1, o1 + i.toNat * 5 + 2, none⟩ = some (.int .i64 c.b) ∧ w'.cell? ⟨b1, o1 + i.toNat * 5 + 3, none⟩ = some (.slice A3 n3 p3) ∧ w'.cell? ⟨b1, o1 + i.toNat * 5 + 4, none⟩ = some (.slice A4 n4 p4)) (go_keep)
              (first
                | (go_at_call 16; refine (err_c 0 _).mono ?_; rintro e w4 ⟨rfl, rfl⟩)
                | (go_at_call 48; refine (sameCell_c AR.out BR.out).mono ?_; rintro e w5 ⟨rfl, hb2'⟩; have hb2 := below_drew hb2'; clear hb2'; have HB5 := hid (HBc.out.trans (hb2.mono HBc.out.size)); have a0' := keepc hb2 a0; have a1' := keepc hb2 a1; have a2' := keepc hb2 a2; have a3' := keepc hb2 a3; have a4' := keepc hb2 a4; have b0' := keepc hb2 b0; have b1'' := keepc hb2 b1'; have b2' := keepc hb2 b2; have b3' := keepc hb2 b3; have b4' := keepc hb2 b4; clear hb2))
            all_goals
              go_wp2_with fail
              clear a0 a1 a2 a3 a4 b0 b1' b2 b3 b4 a0' a1' a2' a3' a4' b0' b1'' b2' b3' b4'
              go_roundw
              case rel => exact ⟨i + 1, by omega, by omega, by go_num, HB5⟩
              case measure => simp [intOf]; omega
    · obtain rfl : k = bs.length := by omega
      go_wp2_with fail
      go_ret
      exact ⟨rfl, HB.out⟩
end
end Go.Proofs.Ytljbdmmidajmdaa.Pg
