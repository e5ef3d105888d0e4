/- Whatever is asked of books that come of one another: the walk. -/
import Derived.Test.YtljbdmmidajmdaaPg53
import Derived.WalkSmall
import Derived.Deep.AppendLies
namespace Go.Proofs.Ytljbdmmidajmdaa.Pg
open Go.RowKit
attribute [local go_sem ↓] Go.wp_at_zero Go.wp_at_succ

theorem infoBookP : (Try.prog.info? 23).map (fun i => (i.zero, i.size, i.bytes)) = some (some (.pointer none), 1, 8) := by kernel_rfl
set_option maxHeartbeats 6400000 in
set_option maxRecDepth 100000 in
theorem pall_c (A : Option Addr) (len cp : Nat) (l : List AD) (W : World) (hm : len ≤ maxLen) (hl : l.length = len) (hA : ∀ j a, l[j]? = some a → ∃ b o, A = some ⟨b, o, none⟩ ∧ AskAt W.heap.size W b (o + j * 8) a) :
    Calls Try.prog 5 #[.slice A len cp] W fun e w' => e = .returned (.bool true) ∧ Below W.heap.size W w' := by
  unfold maxLen at hm
  have HL := hid hl
  have HA := hid hA
  clear hl hA
  go_enter Try.func5, Try.ntmps5
  by_cases h80 : (80 : Int) < len
  · go_wp2_with fail
    refine (awake_c W).mono ?_
    rintro e w1 ⟨rfl, hb⟩
    go_wp2_with fail
    go_ret
    exact ⟨rfl, hb⟩
  · go_wp2_with fail
    refine (New (B := W.heap.size) (w := W) (Nat.le_refl _)).mono ?_
    rintro e w1 ⟨b0, rfl, D0, hF, hb1, hfoot, hbb, hS⟩
    go_wp2_with fail
    have HT := hid (Twin.start hb1 hF hS)
    have HB := hid (((hb1.alloc hb1.size (.cells #[.pointer (some ⟨b0, 0, none⟩)] 23)).alloc (by have := hb1.size; simp; omega) (.cells #[.slice none 0 0, .slice none 0 0, .bool false] 47)).alloc (by have := hb1.size; simp; omega) (.cells #[.slice (some ⟨w1.heap.size + 1, 0, none⟩) 1 1, .int .i64 0] 50))
    clear hF hb1 hfoot hbb hS
    generalize (((w1.alloc (.cells #[.pointer (some ⟨b0, 0, none⟩)] 23)).alloc (.cells #[.slice none 0 0, .slice none 0 0, .bool false] 47)).alloc (.cells #[.slice (some ⟨w1.heap.size + 1, 0, none⟩) 1 1, .int .i64 0] 50)) = w3 at HT HB ⊢
    go_loopw [4, 6] (fun v i wx => ∃ (k : Nat) (bs : List Nat) (S : List SB) (D : FD) (g cap : Nat) (R : List RB) (next : Nat) (f : Nat → Nat) (rg rcap : Nat), k ≤ len ∧ next ≤ k ∧ v = .slice (some ⟨rg, 0, none⟩) bs.length rcap ∧ i = .int .i64 k ∧ Box (Twin W.heap.size wx D bs S (w1.heap.size + 2) g cap R next f rg rcap) ∧ Box (Below W.heap.size W wx)) (fun _ i _ => len - (intOf i).toNat)
    case atStart => exact ⟨0, [b0], _, D0, _, _, _, 0, id, w1.heap.size, 1, by omega, by omega, rfl, rfl, HT, HB⟩
    case round =>
      clear HT HB
      obtain ⟨k, bs, S, D, g, cap, R, next, f, rg, rcap, hk, hnx, rfl, rfl, T, HB⟩ := hrel
      rcases Nat.lt_or_ge k len with hlt | hge
      · have hlt' : (k : Int) < len := by omega
        have hx := List.getElem?_eq_getElem (l := l) (i := k) (by rw [HL.out]; exact hlt)
        generalize l[k]'(by rw [HL.out]; exact hlt) = a at hx
        obtain ⟨b, o, rfl, hask⟩ := HA.out k a hx
        have HX := hid hx
        clear hx
        obtain ⟨dd, bk, at0, c⟩ := a
        obtain ⟨a0, a1, a2, hc, ⟨p1, p2⟩, ⟨q1, q2⟩⟩ := hask
        dsimp only at a0 a1 a2 hc p1 p2 q1 q2
        obtain ⟨A1, n1, cp1, A2, n2, cp2, a3, a4, a5, a6, a7, hr⟩ := hc
        have HR := hid (hr.move (Fr.of_below HB.out))
        have a0 := keepc HB.out a0
        have a1 := keepc HB.out a1
        have a2 := keepc HB.out a2
        have a3 := keepc HB.out a3
        have a4 := keepc HB.out a4
        have a5 := keepc HB.out a5
        have a6 := keepc HB.out a6
        have a7 := keepc HB.out a7
        have hkl : c.keys.length = n1 ∧ c.vals.length = n2 := by
          obtain ⟨A0, n0, c0, e, h1, -⟩ := id hr.k
          injection e with e1 e2 e3
          obtain ⟨A0', n0', c0', e', h1', -⟩ := id hr.v
          injection e' with e1' e2' e3'
          rw [List.length_map] at h1 h1'
          exact ⟨h1.trans e2.symm, h1'.trans e2'.symm⟩
        have HKL := hid hkl
        clear hr hkl
        go_upto_region 12 with fail
        have s0 := T.out.base
        have HBx := hid (heap_alloc_new wr (.cells #[.int .i64 dd, .int .i64 bk, .int .i64 at0, .int .i64 c.kind, .int .i64 c.a, .int .i64 c.b, .slice A1 n1 cp1, .slice A2 n2 cp2] 52))
        have hba := (Below.refl wr.heap.size wr).alloc (Nat.le_refl _) (.cells #[.int .i64 dd, .int .i64 bk, .int .i64 at0, .int .i64 c.kind, .int .i64 c.a, .int .i64 c.b, .slice A1 n1 cp1, .slice A2 n2 cp2] 52)
        have hno : ∀ k', Foot D k' → k' < wr.heap.size := fun k' hf => (T.out.fam.foot_lt hf).1
        have HNo := hid hno
        have lfb := (Array.getElem?_eq_some_iff.1 T.out.rf.cell).1
        have lg := T.out.rf.gtyp.1.lt
        have nfb : wr.heap.size ≠ w1.heap.size + 2 := by omega
        have ng : wr.heap.size ≠ g := by omega
        have HWr := hid hba
        clear a0 a1 a2 a3 a4 a5 a6 a7 hno
        generalize wr.alloc (.cells #[.int .i64 dd, .int .i64 bk, .int .i64 at0, .int .i64 c.kind, .int .i64 c.a, .int .i64 c.b, .slice A1 n1 cp1, .slice A2 n2 cp2] 52) = wa at HBx hba HWr ⊢
        have T2 := hid (T.out.below hba)
        have HB2 := hid (HB.out.trans (hba.mono s0))
        have HR2 := hid (HR.out.move (Fr.of_below hba))
        have hab : wr.heap.size < wa.heap.size := (Array.getElem?_eq_some_iff.1 HBx.out).1
        clear hba
        have e0 := cell_of_row wa wr.heap.size 0 _ _ _ HBx.out
        have e1 := cell_of_row wa wr.heap.size 1 _ _ _ HBx.out
        have e2 := cell_of_row wa wr.heap.size 2 _ _ _ HBx.out
        have e3 := cell_of_row wa wr.heap.size 3 _ _ _ HBx.out
        have e4 := cell_of_row wa wr.heap.size 4 _ _ _ HBx.out
        have e5 := cell_of_row wa wr.heap.size 5 _ _ _ HBx.out
        have e6 := cell_of_row wa wr.heap.size 6 _ _ _ HBx.out
        have e7 := cell_of_row wa wr.heap.size 7 _ _ _ HBx.out
        simp only [List.getElem?_toArray, List.getElem?_cons_zero, List.getElem?_cons_succ] at e0 e1 e2 e3 e4 e5 e6 e7
        by_cases hk5 : (5 : Int) < n1 ∨ (9 : Int) < n2
        · by_cases hk5' : (5 : Int) < n1
          · go_wp2_with fail
            refine (awake_c wa).mono ?_
            rintro e w4 ⟨rfl, hb4⟩
            go_wp2_with fail
            go_ret
            exact ⟨rfl, HB2.out.trans (hb4.mono HB2.out.size)⟩
          · have hk9 : (9 : Int) < n2 := hk5.resolve_left hk5'
            go_wp2_with fail
            refine (awake_c wa).mono ?_
            rintro e w4 ⟨rfl, hb4⟩
            go_wp2_with fail
            go_ret
            exact ⟨rfl, HB2.out.trans (hb4.mono HB2.out.size)⟩
        · have hk6 : ¬ (5 : Int) < n1 := fun h => hk5 (.inl h)
          have hk7 : ¬ (9 : Int) < n2 := fun h => hk5 (.inr h)
          have HSm := hid (show c.small from ⟨by rw [HKL.out.1]; omega, by rw [HKL.out.2]; omega⟩)
          clear hk5
          have hs6 := T2.out.small
          by_cases hbk : bk < 0 ∨ (bs.length : Int) ≤ bk
          · rcases hbk with hbk | hbk
            · go_wp2_with fail
              go_roundw
              case rel => exact ⟨k + 1, bs, S, D, g, cap, R, next, f, rg, rcap, by omega, by omega, rfl, by go_num, T2, HB2⟩
              case measure => simp [intOf]; omega
            · have hbk0 : ¬ bk < 0 := by omega
              go_wp2_with fail
              go_roundw
              case rel => exact ⟨k + 1, bs, S, D, g, cap, R, next, f, rg, rcap, by omega, by omega, rfl, by go_num, T2, HB2⟩
              case measure => simp [intOf]; omega
          · have hbk0 : ¬ bk < 0 := fun h => hbk (.inl h)
            have hbk1 : ¬ (bs.length : Int) ≤ bk := fun h => hbk (.inr h)
            clear hbk p1 p2
            obtain ⟨bi, rfl⟩ := Int.eq_ofNat_of_zero_le (Int.not_lt.1 hbk0)
            have hbi : bi < bs.length := by omega
            obtain ⟨bl, s, x, hb, hs, hx, hsm', hxc, hxg, hxp⟩ := T2.out.at_ hbi
            have hwf := T2.out.bks.wf s hsm'
            have r0 := T2.out.row.at_ (j := bi) (u := ptr bl) (by rw [List.getElem?_map, hb]; rfl)
            have HBs := hid hb
            have HSs := hid hs
            have HXs := hid hx
            have HWf := hid hwf
            have HXc := hid hxc
            have HXg := hid hxg
            have HXp := hid hxp
            have hn4 := hwf.n
            clear hb hs hx hsm' hxc hxg hxp hwf
            go_upto_block 2 with fail
            have HE := hid (And.intro e0 (And.intro e1 (And.intro e2 (And.intro e3 (And.intro e4 (And.intro e5 (And.intro e6 e7)))))))
            go_cut [4] (fun v wx => ∃ (bs' : List Nat) (S' : List SB) (D' : FD) (g' cap' : Nat) (R' : List RB) (next' : Nat) (f' : Nat → Nat) (rg' rcap' : Nat), v = .slice (some ⟨rg', 0, none⟩) bs'.length rcap' ∧ next' ≤ k + 1 ∧ Box (Twin W.heap.size wx D' bs' S' (w1.heap.size + 2) g' cap' R' next' f' rg' rcap') ∧ Box (Below W.heap.size W wx))
            case first =>
              by_cases hd : dd = 0 ∨ dd = 1 ∨ dd = 2
              · go_upto_if 66 with fail
                go_cut [66] (fun v wx => v = .bool true ∧ wa = wx)
                case first =>
                  rcases hd with rfl | rfl | rfl
                  all_goals
                    go_wp2_with fail
                    go_meet
                    exact ⟨rfl, rfl⟩
                case rest =>
                  obtain ⟨rfl, rfl⟩ := hcut
                  clear hd
                  as_aux_lemma =>
                    by_cases hok : s.gone = false ∧ s.cells.length < 4096
                    · obtain ⟨hg, hlen⟩ := hok
                      have HG := hid hg
                      clear hg
                      go_wp2_with fail
                      refine (Add T2.out.fam T2.out.base T2.out.bks (by rw [← T2.out.bks.len]; omega) HBs.out HSs.out HG.out hlen HR2.out HSm.out).mono ?_
                      rintro e w4 ⟨rfl, D4, ps, ho, hF4, hG4, hS4⟩
                      have rf4 := T2.out.rf.goes hG4
                      have hbx4 := (hG4.keep _ hab (fun hf => by have := HNo.out _ hf; omega)).trans HBx.out
                      have HR4 := hid (HR2.out.move hG4.fr)
                      have s4 := Nat.le_trans T2.out.base hG4.fr.size
                      have hab4 : wr.heap.size < w4.heap.size := (Array.getElem?_eq_some_iff.1 hbx4).1
                      clear e0 e1 e2 e3 e4 e5 e6 e7 r0
                      have e0 := cell_of_row w4 wr.heap.size 0 _ _ _ hbx4
                      have e1 := cell_of_row w4 wr.heap.size 1 _ _ _ hbx4
                      have e2 := cell_of_row w4 wr.heap.size 2 _ _ _ hbx4
                      have e3 := cell_of_row w4 wr.heap.size 3 _ _ _ hbx4
                      have e4 := cell_of_row w4 wr.heap.size 4 _ _ _ hbx4
                      have e5 := cell_of_row w4 wr.heap.size 5 _ _ _ hbx4
                      have e6 := cell_of_row w4 wr.heap.size 6 _ _ _ hbx4
                      have e7 := cell_of_row w4 wr.heap.size 7 _ _ _ hbx4
                      simp only [List.getElem?_toArray, List.getElem?_cons_zero, List.getElem?_cons_succ] at e0 e1 e2 e3 e4 e5 e6 e7
                      have HO := hid ho
                      have HF4 := hid hF4
                      have HG4 := hid hG4
                      have HS4 := hid hS4
                      have RF4 := hid rf4
                      have HBx4 := hid hbx4
                      clear ho hF4 hG4 hS4 rf4 hbx4
                      go_wp2_with fail
                      refine (radd_yes RF4.out HF4.out s4 (by omega) (by have := HWf.out.le; rw [HXp.out, List.length_map]; omega) (by rw [HXc.out]; exact hlen) HXs.out (HXg.out.trans HG.out) (by have := HWf.out.len; rw [HXc.out, HXp.out, List.length_map]; omega) HR4.out).mono ?_
                      rintro e w5 ⟨rfl, ps', next5, hr5, h5, hR5⟩
                      have hnx5 := hr5.next_le
                      have hbx5 := (hR5.keep _ hab4 nfb ng).trans HBx4.out
                      have HB5 := hid (T2.out.over HB2.out HG4.out hR5)
                      obtain ⟨A7, p7, A8, p8, d0, -⟩ := h5.at_ (b := bi) (x := { x with pgs := ps', cells := x.cells ++ [c] }) (by rw [List.getElem?_set]; have := (List.getElem?_eq_some_iff.1 HXs.out).1; simp [this])
                      have c0 := h5.c0
                      rw [List.length_set, T2.out.rlen] at c0
                      rw [List.length_append, HXc.out] at d0
                      have hm5 := h5.small
                      rw [List.length_set, T2.out.rlen] at hm5
                      unfold maxLen at hm5
                      obtain ⟨S5, R5, f5, T5⟩ := T2.out.added HSs.out HXs.out HO.out hr5 HG4.out HF4.out HS4.out h5 hR5
                      have HT5 := hid T5
                      have HD0 := hid d0
                      clear h5 hR5 T5 hr5 e0 e1 e2 e3 e4 e5 e6 e7 d0
                      have e0 := cell_of_row w5 wr.heap.size 0 _ _ _ hbx5
                      have e1 := cell_of_row w5 wr.heap.size 1 _ _ _ hbx5
                      have e2 := cell_of_row w5 wr.heap.size 2 _ _ _ hbx5
                      have e3 := cell_of_row w5 wr.heap.size 3 _ _ _ hbx5
                      have e4 := cell_of_row w5 wr.heap.size 4 _ _ _ hbx5
                      have e5 := cell_of_row w5 wr.heap.size 5 _ _ _ hbx5
                      have e6 := cell_of_row w5 wr.heap.size 6 _ _ _ hbx5
                      have e7 := cell_of_row w5 wr.heap.size 7 _ _ _ hbx5
                      simp only [List.getElem?_toArray, List.getElem?_cons_zero, List.getElem?_cons_succ] at e0 e1 e2 e3 e4 e5 e6 e7
                      have d0 := HD0.out
                      simp only [List.length_cons, List.length_nil, Nat.zero_add] at d0
                      have hsub : IntKind.i64.wrap (((s.cells.length + 1 : Nat) : Int) - 1) = ((s.cells.length : Nat) : Int) := by rw [show (((s.cells.length + 1 : Nat) : Int) - 1) = ((s.cells.length : Nat) : Int) by omega]; exact IntWalk.i64_in _ (by omega)
                      have hbi0 : (0 : Int) ≤ bi := by omega
                      have hbi1 : (bi : Int) < (bs.length : Nat) := by omega
                      clear hbx5 e0 e2 e3 e4 e5 e6 e7
                      go_upto_region 22 with fail
                      go_quiet ((go_at_call 16; exact Calls.quiet_of_same (err_c _ _)))
                      go_wp2_with fail
                      go_meet
                      exact ⟨bs, S5, D4, g, cap, R5, next5, f5, rg, rcap, rfl, by omega, hid (HT5.out.below (below_drewN (Below.refl _ _) _)), hid (below_drewN HB5.out _)⟩
                    · have hq : ∃ q : Int, NoAdd s.gone s.cells.length q ∧ 0 < q := by
                        cases hg : s.gone with
                        | true => exact ⟨2, .inl ⟨rfl, rfl⟩, by omega⟩
                        | false => exact ⟨6, .inr ⟨rfl, Nat.not_lt.1 (fun h => hok ⟨hg, h⟩), rfl⟩, by omega⟩
                      obtain ⟨q, hq, hq0⟩ := hq
                      have HQ := hid hq
                      have hqe : (q == (0 : Int)) = false := by rw [beq_eq_false_iff_ne]; omega
                      have hqn : (q != (0 : Int)) = true := by rw [bne_iff_ne]; omega
                      have hqq : (q != q) = false := by simp
                      clear hq hok
                      go_wp2_with fail
                      refine (add_no T2.out.fam T2.out.bks HBs.out HSs.out HQ.out c _ _).mono ?_
                      rintro e w4 ⟨rfl, hb4⟩
                      have T4 := hid (T2.out.below hb4)
                      have HB4 := hid (HB2.out.trans (hb4.mono T2.out.base))
                      have HR4 := hid (HR2.out.move (Fr.of_below hb4))
                      have e0 := keepc hb4 e0
                      have e1 := keepc hb4 e1
                      have e2 := keepc hb4 e2
                      have e3 := keepc hb4 e3
                      have e4 := keepc hb4 e4
                      have e5 := keepc hb4 e5
                      have e6 := keepc hb4 e6
                      have e7 := keepc hb4 e7
                      clear hb4 r0
                      go_wp2_with fail
                      refine (radd_no T4.out.rf HXs.out (q := q) (by rw [HXg.out, HXc.out]; exact HQ.out) (c := c)).mono ?_
                      rintro e w5 ⟨rfl, hb5⟩
                      have T5 := hid (T4.out.below hb5)
                      have HB5 := hid (HB4.out.trans (hb5.mono T4.out.base))
                      clear hb5 e0 e1 e2 e3 e4 e5 e6 e7
                      go_upto_region 22 with fail
                      go_quiet ((go_at_call 16; exact Calls.quiet_of_same (err_c _ _)))
                      go_wp2_with fail
                      go_meet
                      exact ⟨bs, S, D, g, cap, R, next, f, rg, rcap, rfl, by omega, hid (T5.out.below (below_drewN (Below.refl _ _) _)), hid (below_drewN HB5.out _)⟩
              · by_cases hd2 : dd = 3 ∨ dd = 4
                · clear hd
                  have hbi0 : (0 : Int) ≤ bi := by omega
                  have hbi1 : (bi : Int) < (bs.length : Nat) := by omega
                  have Td := hid (T2.out.below (Below.refl wa.heap.size wa).drew)
                  have HBd := hid (HB2.out.drew)
                  have HRd := hid (HR2.out.move (Fr.of_below (Below.refl wa.heap.size wa).drew))
                  have HBxd := hid (show wa.drew.heap[wr.heap.size]? = _ from HBx.out)
                  go_upto_if 114 with fail
                  go_cut [114] (fun v wx => v = .bool true ∧ wa = wx)
                  case first =>
                    rcases hd2 with rfl | rfl
                    all_goals
                      go_wp2_with fail
                      go_meet
                      exact ⟨rfl, rfl⟩
                  case rest =>
                    obtain ⟨rfl, rfl⟩ := hcut
                    clear hd2
                    as_aux_lemma =>
                      by_cases hin : 0 ≤ at0 ∧ at0 < (s.cells.length : Nat)
                      · obtain ⟨ai, rfl⟩ := Int.eq_ofNat_of_zero_le hin.1
                        have hai : ai < s.cells.length := by have := hin.2; omega
                        clear hin q1 q2 r0
                        go_upto_region 26 with fail
                        go_region_held3 (fun w' => w'.cell? ⟨wr.heap.size, 1, none⟩ = some (.int .i64 (bi : Nat)) ∧ w'.cell? ⟨wr.heap.size, 2, none⟩ = some (.int .i64 (ai : Nat)) ∧ w'.cell? ⟨wr.heap.size, 3, none⟩ = some (.int .i64 c.kind) ∧ w'.cell? ⟨wr.heap.size, 4, none⟩ = some (.int .i64 c.a) ∧ w'.cell? ⟨wr.heap.size, 5, none⟩ = some (.int .i64 c.b) ∧ w'.cell? ⟨wr.heap.size, 6, none⟩ = some (.slice A1 n1 cp1) ∧ w'.cell? ⟨wr.heap.size, 7, none⟩ = some (.slice A2 n2 cp2))
                          (first | go_keep | exact ⟨k1, k2, k3, k4, k5, k6, k7⟩ | exact ⟨m1, m2, m3, m4, m5, m6, m7⟩)
                          (first
                            | (go_at_call 21; refine (Set Td.out.fam Td.out.base Td.out.bks (by rw [← Td.out.bks.len]; omega) HBs.out HSs.out ai hai HRd.out HSm.out).mono ?_; rintro e w4 ⟨rfl, D4, ps, ho, hF4, hG4, hS4⟩; have hbx4 := (hG4.keep _ (show wr.heap.size < wa.drew.heap.size from hab) (fun hf => by have := HNo.out _ hf; omega)).trans HBxd.out; have HR4 := hid (HRd.out.move hG4.fr); have s4 := Nat.le_trans Td.out.base hG4.fr.size; have hab4 : wr.heap.size < w4.heap.size := (Array.getElem?_eq_some_iff.1 hbx4).1; have k1 := cell_of_row w4 wr.heap.size 1 _ _ _ hbx4; have k2 := cell_of_row w4 wr.heap.size 2 _ _ _ hbx4; have k3 := cell_of_row w4 wr.heap.size 3 _ _ _ hbx4; have k4 := cell_of_row w4 wr.heap.size 4 _ _ _ hbx4; have k5 := cell_of_row w4 wr.heap.size 5 _ _ _ hbx4; have k6 := cell_of_row w4 wr.heap.size 6 _ _ _ hbx4; have k7 := cell_of_row w4 wr.heap.size 7 _ _ _ hbx4; simp only [List.getElem?_toArray, List.getElem?_cons_zero, List.getElem?_cons_succ] at k1 k2 k3 k4 k5 k6 k7; have RF4 := hid (Td.out.rf.goes hG4); have HO := hid ho; have HF4 := hid hF4; have HG4 := hid hG4; have HS4 := hid hS4; have HBx4 := hid hbx4; clear ho hF4 hG4 hS4 hbx4)
                            | (go_at_call 16; refine (err_c _ _).mono ?_; rintro e w6 ⟨rfl, rfl⟩)
                            | (go_at_call 23; refine (rset_yes RF4.out HF4.out s4 (by omega) (by have := HWf.out.le; rw [HXp.out, List.length_map]; omega) (by rw [HXc.out]; exact HWf.out.n) HXs.out (by rw [HXc.out]; exact hai) (by have := HWf.out.len; rw [HXp.out, List.length_map]; omega) HR4.out).mono ?_; rintro e w5 ⟨rfl, ps', next5, hr5, h5, hR5⟩; have hnx5 := hr5.next_le; have hbx5 := (hR5.keep _ hab4 nfb ng).trans HBx4.out; have m1 := cell_of_row w5 wr.heap.size 1 _ _ _ hbx5; have m2 := cell_of_row w5 wr.heap.size 2 _ _ _ hbx5; have m3 := cell_of_row w5 wr.heap.size 3 _ _ _ hbx5; have m4 := cell_of_row w5 wr.heap.size 4 _ _ _ hbx5; have m5 := cell_of_row w5 wr.heap.size 5 _ _ _ hbx5; have m6 := cell_of_row w5 wr.heap.size 6 _ _ _ hbx5; have m7 := cell_of_row w5 wr.heap.size 7 _ _ _ hbx5; simp only [List.getElem?_toArray, List.getElem?_cons_zero, List.getElem?_cons_succ] at m1 m2 m3 m4 m5 m6 m7; have HB5 := hid (Td.out.over HBd.out HG4.out hR5); have HT5 := hid (Td.out.setted HSs.out HXs.out HO.out hr5 HG4.out HF4.out HS4.out h5 hR5); clear h5 hR5 hr5 hbx5))
                        all_goals
                          clear e0 e1 e2 e3 e4 e5 e6 e7 k1 k2 k3 k4 k5 k6 k7 m1 m2 m3 m4 m5 m6 m7
                          go_wp2_with fail
                          go_meet
                          obtain ⟨S5, R5, f5, T5⟩ := HT5.out
                          exact ⟨bs, S5, D4, g, cap, R5, next5, f5, rg, rcap, rfl, by omega, hid T5, HB5⟩
                      · have hin' : at0 < 0 ∨ ((s.cells.length : Nat) : Int) ≤ at0 := by omega
                        clear hin r0
                        go_upto_region 26 with fail
                        go_region_held3 (fun w' => w'.cell? ⟨wr.heap.size, 1, none⟩ = some (.int .i64 (bi : Nat)) ∧ w'.cell? ⟨wr.heap.size, 2, none⟩ = some (.int .i64 at0) ∧ w'.cell? ⟨wr.heap.size, 3, none⟩ = some (.int .i64 c.kind) ∧ w'.cell? ⟨wr.heap.size, 4, none⟩ = some (.int .i64 c.a) ∧ w'.cell? ⟨wr.heap.size, 5, none⟩ = some (.int .i64 c.b) ∧ w'.cell? ⟨wr.heap.size, 6, none⟩ = some (.slice A1 n1 cp1) ∧ w'.cell? ⟨wr.heap.size, 7, none⟩ = some (.slice A2 n2 cp2))
                          (first | go_keep | exact ⟨k1, k2, k3, k4, k5, k6, k7⟩ | exact ⟨m1, m2, m3, m4, m5, m6, m7⟩)
                          (first
                            | (go_at_call 21; refine (Set_no Td.out.fam Td.out.bks HBs.out HSs.out at0 hin' c _ _).mono ?_; rintro e w4 ⟨rfl, hb4⟩; have hbx4 := (hb4.block _ (show wr.heap.size < wa.drew.heap.size from hab)).trans HBxd.out; have s4 := Nat.le_trans Td.out.base hb4.size; have hab4 : wr.heap.size < w4.heap.size := (Array.getElem?_eq_some_iff.1 hbx4).1; have k1 := cell_of_row w4 wr.heap.size 1 _ _ _ hbx4; have k2 := cell_of_row w4 wr.heap.size 2 _ _ _ hbx4; have k3 := cell_of_row w4 wr.heap.size 3 _ _ _ hbx4; have k4 := cell_of_row w4 wr.heap.size 4 _ _ _ hbx4; have k5 := cell_of_row w4 wr.heap.size 5 _ _ _ hbx4; have k6 := cell_of_row w4 wr.heap.size 6 _ _ _ hbx4; have k7 := cell_of_row w4 wr.heap.size 7 _ _ _ hbx4; simp only [List.getElem?_toArray, List.getElem?_cons_zero, List.getElem?_cons_succ] at k1 k2 k3 k4 k5 k6 k7; have T4 := hid (Td.out.below hb4); have HB4 := hid (HBd.out.trans (hb4.mono Td.out.base)); have HBx4 := hid hbx4; clear hb4 hbx4)
                            | (go_at_call 16; refine (err_c _ _).mono ?_; rintro e w6 ⟨rfl, rfl⟩)
                            | (go_at_call 23; refine (rset_no T4.out.rf HXs.out (by rw [HXc.out]; exact hin') (c := c)).mono ?_; rintro e w5 ⟨rfl, hb5⟩; have hbx5 := (hb5.block _ hab4).trans HBx4.out; have m1 := cell_of_row w5 wr.heap.size 1 _ _ _ hbx5; have m2 := cell_of_row w5 wr.heap.size 2 _ _ _ hbx5; have m3 := cell_of_row w5 wr.heap.size 3 _ _ _ hbx5; have m4 := cell_of_row w5 wr.heap.size 4 _ _ _ hbx5; have m5 := cell_of_row w5 wr.heap.size 5 _ _ _ hbx5; have m6 := cell_of_row w5 wr.heap.size 6 _ _ _ hbx5; have m7 := cell_of_row w5 wr.heap.size 7 _ _ _ hbx5; simp only [List.getElem?_toArray, List.getElem?_cons_zero, List.getElem?_cons_succ] at m1 m2 m3 m4 m5 m6 m7; have HB5 := hid (HB4.out.trans (hb5.mono T4.out.base)); have T5 := hid (T4.out.below hb5); clear hb5 hbx5))
                        all_goals
                          clear e0 e1 e2 e3 e4 e5 e6 e7 k1 k2 k3 k4 k5 k6 k7 m1 m2 m3 m4 m5 m6 m7
                          go_wp2_with fail
                          go_meet
                          exact ⟨bs, S, D, g, cap, R, next, f, rg, rcap, rfl, by omega, T5, HB5⟩
                · by_cases hd6 : dd = 6
                  · clear hd hd2
                    subst hd6
                    as_aux_lemma =>
                      by_cases hg : s.gone = true
                      · have HG := hid hg
                        clear hg
                        go_wp2_with fail
                        refine (Drop_gone T2.out.fam T2.out.bks HBs.out HSs.out HG.out).mono ?_
                        rintro e w4 ⟨rfl, rfl⟩
                        go_wp2_with fail
                        refine (rdrop_c T2.out.rf HXs.out).mono ?_
                        rintro e w5 ⟨rfl, h5, hR5⟩
                        have T5 := hid (T2.out.dropped HSs.out (Goes.refl _ _ _) T2.out.fam (by rw [gone_set HWf.out HG.out HSs.out]; exact T2.out.bks) h5 hR5)
                        have HB5 := hid (T2.out.over HB2.out (Goes.refl _ _ _) hR5)
                        clear h5 hR5 e0 e1 e2 e3 e4 e5 e6 e7 r0
                        go_wp2_with fail
                        go_meet
                        exact ⟨bs, _, D, g, cap, _, next, f, rg, rcap, rfl, by omega, T5, HB5⟩
                      · have HG := hid (show s.gone = false by simpa using hg)
                        clear hg
                        go_wp2_with fail
                        refine (Drop T2.out.fam T2.out.bks (by rw [← T2.out.bks.len]; omega) HBs.out HSs.out HG.out).mono ?_
                        rintro e w4 ⟨rfl, D4, hF4, hG4, hS4⟩
                        have hbx4 := (hG4.keep _ hab (fun hf => by have := HNo.out _ hf; omega)).trans HBx.out
                        have RF4 := hid (T2.out.rf.goes hG4)
                        have HF4 := hid hF4
                        have HG4 := hid hG4
                        have HS4 := hid hS4
                        clear e0 e1 e2 e3 e4 e5 e6 e7 r0 hF4 hG4 hS4
                        have e1 := cell_of_row w4 wr.heap.size 1 _ _ _ hbx4
                        simp only [List.getElem?_toArray, List.getElem?_cons_zero, List.getElem?_cons_succ] at e1
                        clear hbx4
                        go_wp2_with fail
                        refine (rdrop_c RF4.out HXs.out).mono ?_
                        rintro e w5 ⟨rfl, h5, hR5⟩
                        have T5 := hid (T2.out.dropped HSs.out HG4.out HF4.out HS4.out h5 hR5)
                        have HB5 := hid (T2.out.over HB2.out HG4.out hR5)
                        clear h5 hR5 e1
                        go_wp2_with fail
                        go_meet
                        exact ⟨bs, _, D4, g, cap, _, next, f, rg, rcap, rfl, by omega, T5, HB5⟩
                  · by_cases hd5 : dd = 5
                    · clear hd hd2 hd6
                      subst hd5
                      as_aux_lemma =>
                        have hbi0 : (0 : Int) ≤ bi := by omega
                        have hbi1 : (bi : Int) < (bs.length : Nat) := by omega
                        by_cases h6 : (bs.length : Int) < 6
                        · by_cases hg : s.gone = true
                          · have HG := hid hg
                            clear hg
                            obtain ⟨A7, p7, A8, p8, -, -, d2, -⟩ := T2.out.rf.at_ HXs.out
                            rw [HXg.out, HG.out] at d2
                            have c0 := T2.out.rf.c0
                            rw [T2.out.rlen] at c0
                            have hm5 := T2.out.rf.small
                            rw [T2.out.rlen] at hm5
                            unfold maxLen at hm5
                            go_wp2_with fail
                            refine (Mark_gone T2.out.fam T2.out.bks HBs.out HSs.out HG.out).mono ?_
                            rintro e w4 ⟨rfl, rfl⟩
                            go_upto_region 31 with fail
                            go_quiet (fail)
                            clear c0 d2 e0 e1 e2 e3 e4 e5 e6 e7 r0
                            go_wp2_with fail
                            go_meet
                            exact ⟨bs, S, D, g, cap, R, next, f, rg, rcap, rfl, by omega, hid (T2.out.below (below_drewN (Below.refl _ _) _)), hid (below_drewN HB2.out _)⟩
                          · have HG := hid (show s.gone = false by simpa using hg)
                            clear hg
                            go_wp2_with fail
                            refine (Mark T2.out.fam T2.out.base T2.out.bks (by rw [← T2.out.bks.len]; omega) HBs.out HSs.out HG.out).mono ?_
                            rintro e w4 ⟨b', rfl, D4, hlt4, hF4, hG4, hS4⟩
                            have hbx4 := (hG4.keep _ hab (fun hf => by have := HNo.out _ hf; omega)).trans HBx.out
                            have rf4 := T2.out.rf.goes hG4
                            have RF4 := hid rf4
                            have HRow4 := hid (T2.out.row.goes hG4)
                            have s4 : W.heap.size ≤ w4.heap.size := Nat.le_trans T2.out.base hG4.fr.size
                            obtain ⟨A7, p7, A8, p8, -, -, d2, -⟩ := rf4.at_ HXs.out
                            rw [HXg.out, HG.out] at d2
                            have c0 := rf4.c0
                            rw [T2.out.rlen] at c0
                            have hm5 := rf4.small
                            rw [T2.out.rlen] at hm5
                            unfold maxLen at hm5
                            have HF4 := hid hF4
                            have HG4 := hid hG4
                            have HS4 := hid hS4
                            have HBx4 := hid hbx4
                            clear e0 e1 e2 e3 e4 e5 e6 e7 r0 hF4 hG4 hS4 rf4 hlt4
                            have e1 := cell_of_row w4 wr.heap.size 1 _ _ _ hbx4
                            simp only [List.getElem?_toArray, List.getElem?_cons_zero, List.getElem?_cons_succ] at e1
                            clear hbx4
                            go_upto_region 31 with fail
                            go_quiet (fail)
                            clear c0 d2 e1
                            obtain ⟨w5, hw5⟩ : ∃ w5, w5 = w4.drewN nq := ⟨_, rfl⟩
                            have hb5 : Below w4.heap.size w4 w5 := hw5 ▸ below_drewN (Below.refl _ _) _
                            rw [← hw5]
                            clear hw5
                            obtain ⟨i0, hi, hz0, hz1, hz2⟩ := info_parts infoBookP
                            have HI := hid hi
                            have s5 : W.heap.size ≤ w5.heap.size := Nat.le_trans s4 hb5.size
                            have hbx5 := (hb5.block _ (Array.getElem?_eq_some_iff.1 HBx4.out).1).trans HBx4.out
                            have hW5 := (Below.refl w5.heap.size w5).alloc (Nat.le_refl _) (.cells #[.pointer (some ⟨b', 0, none⟩)] 23)
                            have HRow5 := hid ((HRow4.out.below hb5).below hW5)
                            have RF5 := hid ((RF4.out.below hb5).below hW5)
                            have HF5 := hid ((HF4.out.below hb5).below hW5)
                            have HNews := hid (World.news_of_block (heap_alloc_new w5 (.cells #[.pointer (some ⟨b', 0, none⟩)] 23)))
                            have HSz := hid (show W.heap.size ≤ (w5.alloc (.cells #[.pointer (some ⟨b', 0, none⟩)] 23)).heap.size by simp; omega)
                            have hbx6 := (hW5.block _ (Array.getElem?_eq_some_iff.1 hbx5).1).trans hbx5
                            have HBx6 := hid hbx6
                            have HB5 := hid (((HB2.out.trans (HG4.out.fr.below T2.out.base)).trans (hb5.mono s4)).trans (hW5.mono s5))
                            clear hi hb5 hW5 hbx5 hbx6
                            go_upto_region 37 with (at_builtin; refine wpList_append_lies _ rfl _ _ 39 rfl W.heap.size 23 i0 (.pointer none) 1 8 Try.underlying39 HI.out hz0 hz1 hz2 rfl (by decide) (.slice (some ⟨rg, 0, none⟩) bs.length rcap) bs.length (bs.map ptr) ?c1 HRow5.out.own ⟨w5.heap.size, 0, none⟩ 1 1 [.pointer (some ⟨b', 0, none⟩)] ?c2 rfl ?c3 ?c4 (by decide) ?c5 ?c6 HSz.out _ rfl ?_; (case c1 => rfl); (case c2 => rfl); (case c3 => exact HNews.out); (case c4 => simp [Value.oneCell']); (case c5 => unfold maxLen; omega); (case c6 => omega); intro g' cp' w7 hown hgrow hat hlt7; have HGr := hid (show World.grownBy _ w7 (some rg) from hgrow); have HRow7 := hid (HRow5.out.grow HF5.out HSz.out (by decide) (by decide) hgrow hown (hat.imp id (fun e => by omega))); clear hown hgrow hat hlt7)
                            have hrgx : rg ≠ wr.heap.size := by have := T2.out.row.lt; have := T.out.row.lt; omega
                            have hbx7 := (HGr.out.block wr.heap.size (Array.getElem?_eq_some_iff.1 HBx6.out).1 (by simpa using Ne.symm hrgx)).trans HBx6.out
                            have e1 := cell_of_row w7 wr.heap.size 1 _ _ _ hbx7
                            simp only [List.getElem?_toArray, List.getElem?_cons_zero, List.getElem?_cons_succ] at e1
                            have RF7 := hid (RF5.out.but HRow5.out.typ HRow5.out.base HGr.out)
                            clear hbx7
                            go_wp2_with fail
                            refine (rmark_c RF7.out HRow7.out.1 (Nat.le_trans HSz.out HGr.out.size) HXs.out (by rw [T2.out.rlen]; omega)).mono ?_
                            rintro e w8 ⟨rfl, g8, cap8, h8, hR8⟩
                            have T8 := hid (T2.out.marked HSs.out HXs.out (by omega) HRow7.out.1 HS4.out (Nat.le_trans HSz.out HGr.out.size) HRow7.out.2.1 RF7.out h8 hR8)
                            have HB8 := hid ((HB5.out.trans HRow7.out.2.2).trans (hR8.fr.below (Nat.le_trans HSz.out HGr.out.size)))
                            clear h8 hR8 e1
                            go_wp2_with fail
                            go_meet
                            exact ⟨bs ++ [b'], _, D4, g8, cap8, _, next, f, g', cp', by rw [List.length_append]; rfl, by omega, T8, HB8⟩
                        · clear e0 e1 e2 e3 e4 e5 e6 e7 r0
                          go_wp2_with fail
                          go_meet
                          exact ⟨bs, S, D, g, cap, R, next, f, rg, rcap, rfl, by omega, T2, HB2⟩
                    · have d0 : (dd == (0 : Int)) = false := by rw [beq_eq_false_iff_ne]; omega
                      have d1 : (dd == (1 : Int)) = false := by rw [beq_eq_false_iff_ne]; omega
                      have d2 : (dd == (2 : Int)) = false := by rw [beq_eq_false_iff_ne]; omega
                      have d3 : (dd == (3 : Int)) = false := by rw [beq_eq_false_iff_ne]; omega
                      have d4 : (dd == (4 : Int)) = false := by rw [beq_eq_false_iff_ne]; omega
                      have d5 : (dd == (5 : Int)) = false := by rw [beq_eq_false_iff_ne]; omega
                      have d6 : (dd == (6 : Int)) = false := by rw [beq_eq_false_iff_ne]; omega
                      clear hd hd2 hd5 hd6
                      go_wp2_with fail
                      go_meet
                      exact ⟨bs, S, D, g, cap, R, next, f, rg, rcap, rfl, by omega, T2, HB2⟩
            case rest =>
              obtain ⟨bs', S', D', g', cap', R', next', f', rg', rcap', rfl, hnx', T3, HB3⟩ := hcut
              clear e0 e1 e2 e3 e4 e5 e6 e7
              go_wp2_with fail
              refine (like_c T3.out).mono ?_
              rintro e w6 ⟨rfl, hb6⟩
              have s3 := T3.out.base
              have HB6 := hid (HB3.out.trans (hb6.mono s3))
              have T6 := hid (T3.out.below hb6)
              clear hb6
              go_wp2_with fail
              go_roundw
              case rel => exact ⟨k + 1, bs', S', D', g', cap', R', next', f', rg', rcap', by omega, by omega, rfl, by go_num, T6, HB6⟩
              case measure => simp [intOf]; omega
      · obtain rfl : k = len := by omega
        go_wp2_with fail
        refine (awake_c wr).mono ?_
        rintro e w4 ⟨rfl, hb4⟩
        go_wp2_with fail
        go_ret
        exact ⟨rfl, HB.out.trans (hb4.mono HB.out.size)⟩
end Go.Proofs.Ytljbdmmidajmdaa.Pg
