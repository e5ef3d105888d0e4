/- Signs between: walked. -/
import Derived.Test.YticbjhicjegfoaaQn
namespace Go.Proofs.Yticbjhicjegfoaa.Q
open Go.RowKit
open Go.Proofs.YticbjhicjegfoaaW.PrintWords

theorem lit1 (s : ByteArray) : beqB s (⟨#[124, 124]⟩ : ByteArray) = (s.toList == [124, 124]) := (lit_beq _ _).symm
theorem lit2 (s : ByteArray) : beqB s (⟨#[38, 38]⟩ : ByteArray) = (s.toList == [38, 38]) := (lit_beq _ _).symm
section
variable {n k : Nat} {ks : List Nat} {S S' : Ps} {w : World} {a : Nat} {ok : Nat → Prop} {v : Value}
set_option maxHeartbeats 3200000 in
set_option maxRecDepth 100000 in
theorem binary_w {level : Nat} (hlv : level ≤ 6) (G : ∀ m, m < n → Good m) (hr : run n (.binary level) S = some (k, ks, S')) (h : PI w a ok v S) : Calls Try.prog 100 #[ptr a, .int .i64 level] w (Ret w a ok k S') := by
  cases n with
  | zero => cases hr
  | succ n =>
  have hG := G n (Nat.lt_succ_self n)
  change binaryF (run n) level S = _ at hr
  have H0 := hid (At.start h)
  have HG := hid G
  clear G h
  unfold binaryF at hr
  have HR0 := hid hr
  clear hr
  unfold ptr
  go_enter Try.func100, Try.ntmps100
  go_wp2_with fail
  refine (rows_c w).mono ?_
  rintro e w1 ⟨b, rfl, hrows, hb1⟩
  have H1 := hid (H0.out.below hb1)
  have hlo : ∀ k, ok k → k < w.heap.size := H0.out.p.lo
  have hla : a < w.heap.size := H0.out.p.lt
  have HRW := hid (Beside.start hrows hlo hla)
  clear hrows hb1 hlo hla H0
  have hr := HR0.out
  clear HR0
  rcases Nat.eq_or_lt_of_le hlv with h6 | h6
  · skip
    rw [if_pos h6] at hr
    have HX := hid hr
    subst h6
    clear hr HG
    go_wp2_with fail
    refine (hG.unary HX.out H1.out.p).mono ?_
    rintro e w2 ⟨rfl, hN⟩
    obtain ⟨ok2, v2, h2, m2⟩ := H1.out.call hN
    have H2 := hid h2
    clear hN h2 m2 H1
    go_wp2_with fail
    go_ret
    exact ⟨ret_nat rfl, H2.out.nx⟩
  · skip
    rw [if_neg (by omega)] at hr
    obtain ⟨⟨x1, x2, x3⟩, hx, hr2⟩ := Option.bind_eq_some_iff.1 hr
    have HX := hid hx
    clear hr hx
    dsimp only at hr2
    have hr := hr2
    clear hr2
    have HR1 := hid hr
    clear hr
    have hb1 := hG.binary (level := level + 1) HX.out (by omega) H1.out.p
    rw [show ((level + 1 : Nat) : Int) = (level : Int) + 1 from rfl] at hb1
    have hl0 : (0 : Int) ≤ (level : Int) := by omega
    have hl1 : (level : Int) ≤ 5 := by omega
    have hl6 : (level : Int) < 6 := by omega
    have HB1 := hid hb1
    clear hb1
    go_wp2_with fail
    refine (HB1.out).mono ?_
    rintro e w2 ⟨rfl, hN⟩
    obtain ⟨ok2, v2, h2, m2⟩ := H1.out.call hN
    have H2 := hid h2
    replace HRW := hid (HRW.out.mv m2)
    clear hN h2 m2 H1
    clear hG HX HB1
    go_wp2_with fail
    go_loopg [6] n (fun g x wx => ∃ okx vx Sx kx, g ≤ n ∧ x = .int .i64 (kx : Nat) ∧ Box (run g (.binL level kx) Sx = some (k, ks, S')) ∧ Box (At w a ok wx okx vx Sx) ∧ Box (Beside wx a okx b))
    case atStart => exact ⟨_, _, _, _, Nat.le_refl _, rfl, HR1, H2, HRW⟩
    case round =>
      clear H2 HR1 HRW
      obtain ⟨okx, vx, Sx, kx, hgk, rfl, HR, H0, HRW⟩ := hrel
      have hr := HR.out
      clear HR
      cases gk with
      | zero => cases hr
      | succ gk =>
      have hG := HG.out gk (by omega)
      clear HG
      change binLF (run gk) level kx Sx = _ at hr
      unfold binLF at hr
      obtain ⟨row, hrow⟩ : ∃ row, rowsL[level]? = some row := ⟨_, List.getElem?_eq_getElem (by show level < 6; omega)⟩
      obtain ⟨bl, cb, htx⟩ := HRW.out.row hrow
      have hin : inRow level Sx.t.text = row.any (fun x => beqB x Sx.t.text) := by unfold inRow; rw [hrow]; rfl
      rw [hin] at hr
      have hrl : row.length ≤ 4 := by
        have : ∀ x ∈ rowsL, x.length ≤ 4 := by decide
        exact this row (List.mem_of_getElem? hrow)
      have HTX := hid htx
      clear htx hrow hin
      have c9 := H0.out.p.c9
      have c1 := H0.out.p.c1
      have c2 := H0.out.p.c2
      rcases Bool.eq_false_or_eq_true (Sx.bad) with hb | hb
      · skip
        rw [if_neg (by simp [hb])] at hr
        rw [hb] at c9
        clear hb
        obtain ⟨rfl, rfl, rfl⟩ := some3 hr
        clear hr
        go_wp2_with fail
        go_quiet ((go_at_call 59; exact Calls.quiet_of_same (in_rc (HTX.out.drewN _) (by omega) _)))
        all_goals (go_wp2_with fail)
        all_goals (go_ret)
        all_goals (exact ⟨ret_nat rfl, (H0.out.below (pw_below_drewN (Below.refl _ _) _)).nx⟩)
      · skip
        rw [hb] at c9
        rcases Bool.eq_false_or_eq_true (decide (Sx.t.kind = 5)) with hk5 | hk5
        · skip
          have hk : Sx.t.kind = 5 := by simpa using hk5
          rw [hk] at c1
          rcases Bool.eq_false_or_eq_true (row.any (fun x => beqB x Sx.t.text)) with hi | hi
          · skip
            rw [if_pos (by simp [hb, hk5, hi])] at hr
            have HI := hid hi
            clear hb hk5 hk hi
            obtain ⟨⟨x1, x2, x3⟩, hx, hr2⟩ := Option.bind_eq_some_iff.1 hr
            have HX := hid hx
            clear hr hx
            dsimp only at hr2
            have hr := hr2
            clear hr2
            obtain ⟨q, hq, hr2⟩ := Option.bind_eq_some_iff.1 hr
            have HQ := hid hq
            clear hr hq
            have hr := hr2
            clear hr2
            obtain ⟨⟨y1, y3⟩, hy, hr2⟩ := Option.bind_eq_some_iff.1 hr
            have HY := hid hy
            have HRR := hid hr2
            clear hr hy hr2
            go_wp2_with fail
            go_quiet ((go_at_call 59; exact Calls.quiet_of_same (among_hit (HTX.out.drewN _) (by omega) Sx.t.text HI.out)))
            go_wp2_with fail
            clear c9 c1 c2 cb HTX
            replace H0 := hid (H0.out.below (pw_below_drewN (Below.refl _ _) nq))
            replace HRW := hid (HRW.out.below (pw_below_drewN (Below.refl _ _) nq))
            refine (move_c H0.out.p).mono ?_
            rintro e w1 ⟨rfl, hN⟩
            obtain ⟨ok1, v1, h1, m1⟩ := H0.out.call hN
            have H1 := hid h1
            replace HRW := hid (HRW.out.mv m1)
            clear hN h1 m1 H0
            have hb1 := hG.binary (level := level + 1) HX.out (by omega) H1.out.p
            rw [show ((level + 1 : Nat) : Int) = (level : Int) + 1 from rfl] at hb1
            have HB1 := hid hb1
            clear hb1
            go_wp2_with fail
            refine (HB1.out).mono ?_
            rintro e w2 ⟨rfl, hN⟩
            obtain ⟨ok2, v2, h2, m2⟩ := H1.out.call hN
            have H2 := hid h2
            replace HRW := hid (HRW.out.mv m2)
            clear hN h2 m2 H1
            clear hG HX HB1
            obtain ⟨nd0, hnd, rfl⟩ := Option.map_eq_some_iff.1 (show Option.map Nd.at_ _ = some q from HQ.out)
            obtain ⟨g0, cap0, ev, lg, lk, q0, q5⟩ := H2.out.p.node hnd
            have c7 := H2.out.p.c7
            rw [ev] at c7
            have lk' : (kx : Int) < (_ : Nat) := Int.ofNat_lt.2 lk
            have la := H2.out.p.lt
            clear hnd ev lk
            have HS := hid (At.start H2.out.p)
            rcases Bool.eq_false_or_eq_true (beqB Sx.t.text (⟨#[124, 124]⟩ : ByteArray)) with hc1 | hc1
            · skip
              have hy := HY.out
              rw [show binNd Sx.t.text [kx, x1] nd0.at_ = nd 17 [kx, x1] nd0.at_ by simp [binNd, hc1]] at hy
              replace HY := hid hy
              clear hy
              have hc2 : beqB Sx.t.text (⟨#[38, 38]⟩ : ByteArray) = false := by rw [(beqB_iff _ _).1 hc1]; decide
              rw [lit1] at hc1
              rw [lit2] at hc2
              go_wp2_with fail
              clear q0 q5 c7 lk' la lg
              have L := hid (LR.two HS.out kx x1)
              replace HS := hid (HS.out.alloc (.cells #[.int .i64 (kx : Nat), .int .i64 (x1 : Nat)] 3))
              replace HS := hid (HS.out.alloc (.cells #[.int .i64 17, .int .i64 0, .string ⟨#[]⟩, .slice none 0 0, .slice (some ⟨w2.heap.size, 0, none⟩) 2 2, .int .i64 (nd0.at_ : Nat)] 38))
              replace L := hid (L.out.below ((Below.refl _ _).alloc (Nat.le_refl _) (.cells #[.int .i64 17, .int .i64 0, .string ⟨#[]⟩, .slice none 0 0, .slice (some ⟨w2.heap.size, 0, none⟩) 2 2, .int .i64 (nd0.at_ : Nat)] 38)))
              refine (put_row HS.out L.out HY.out).mono ?_
              rintro e w3 ⟨rfl, hN⟩
              obtain ⟨ok3, v3, h3, m3⟩ := H2.out.call hN
              have H3 := hid h3
              replace HRW := hid (HRW.out.mv m3)
              clear hN h3 m3 H2 HS L hc1 hc2
              go_wp2_with fail
              go_roundg gk
              case measure => omega
              case rel => exact ⟨_, _, _, _, by omega, rfl, HRR, H3, HRW⟩
            · skip
              rcases Bool.eq_false_or_eq_true (beqB Sx.t.text (⟨#[38, 38]⟩ : ByteArray)) with hc2 | hc2
              · skip
                have hy := HY.out
                rw [show binNd Sx.t.text [kx, x1] nd0.at_ = nd 16 [kx, x1] nd0.at_ by simp [binNd, hc1, hc2]] at hy
                replace HY := hid hy
                clear hy
                rw [lit1] at hc1
                rw [lit2] at hc2
                go_wp2_with fail
                clear q0 q5 c7 lk' la lg
                have L := hid (LR.two HS.out kx x1)
                replace HS := hid (HS.out.alloc (.cells #[.int .i64 (kx : Nat), .int .i64 (x1 : Nat)] 3))
                replace HS := hid (HS.out.alloc (.cells #[.int .i64 16, .int .i64 0, .string ⟨#[]⟩, .slice none 0 0, .slice (some ⟨w2.heap.size, 0, none⟩) 2 2, .int .i64 (nd0.at_ : Nat)] 38))
                replace L := hid (L.out.below ((Below.refl _ _).alloc (Nat.le_refl _) (.cells #[.int .i64 16, .int .i64 0, .string ⟨#[]⟩, .slice none 0 0, .slice (some ⟨w2.heap.size, 0, none⟩) 2 2, .int .i64 (nd0.at_ : Nat)] 38)))
                refine (put_row HS.out L.out HY.out).mono ?_
                rintro e w3 ⟨rfl, hN⟩
                obtain ⟨ok3, v3, h3, m3⟩ := H2.out.call hN
                have H3 := hid h3
                replace HRW := hid (HRW.out.mv m3)
                clear hN h3 m3 H2 HS L hc1 hc2
                go_wp2_with fail
                go_roundg gk
                case measure => omega
                case rel => exact ⟨_, _, _, _, by omega, rfl, HRR, H3, HRW⟩
              · skip
                have hy := HY.out
                rw [show binNd Sx.t.text [kx, x1] nd0.at_ = ndT 15 Sx.t.text [kx, x1] nd0.at_ by simp [binNd, hc1, hc2]] at hy
                replace HY := hid hy
                clear hy
                rw [lit1] at hc1
                rw [lit2] at hc2
                go_wp2_with fail
                clear q0 q5 c7 lk' la lg
                have L := hid (LR.two HS.out kx x1)
                replace HS := hid (HS.out.alloc (.cells #[.int .i64 (kx : Nat), .int .i64 (x1 : Nat)] 3))
                replace HS := hid (HS.out.alloc (.cells #[.int .i64 15, .int .i64 0, .string Sx.t.text, .slice none 0 0, .slice (some ⟨w2.heap.size, 0, none⟩) 2 2, .int .i64 (nd0.at_ : Nat)] 38))
                replace L := hid (L.out.below ((Below.refl _ _).alloc (Nat.le_refl _) (.cells #[.int .i64 15, .int .i64 0, .string Sx.t.text, .slice none 0 0, .slice (some ⟨w2.heap.size, 0, none⟩) 2 2, .int .i64 (nd0.at_ : Nat)] 38)))
                refine (put_row HS.out L.out HY.out).mono ?_
                rintro e w3 ⟨rfl, hN⟩
                obtain ⟨ok3, v3, h3, m3⟩ := H2.out.call hN
                have H3 := hid h3
                replace HRW := hid (HRW.out.mv m3)
                clear hN h3 m3 H2 HS L hc1 hc2
                go_wp2_with fail
                go_roundg gk
                case measure => omega
                case rel => exact ⟨_, _, _, _, by omega, rfl, HRR, H3, HRW⟩
          · skip
            rw [if_neg (by simp [hi])] at hr
            have HI := hid hi
            clear hb hk5 hk hi
            obtain ⟨rfl, rfl, rfl⟩ := some3 hr
            clear hr
            go_wp2_with fail
            go_quiet ((go_at_call 59; exact Calls.quiet_of_same (among_hit (HTX.out.drewN _) (by omega) Sx.t.text HI.out)))
            go_wp2_with fail
            go_ret
            exact ⟨ret_nat rfl, (H0.out.below (pw_below_drewN (Below.refl _ _) _)).nx⟩
        · skip
          have hk : (Sx.t.kind == 5) = false := by simpa using hk5
          rw [if_neg (by simp [hk5])] at hr
          clear hb hk5
          obtain ⟨rfl, rfl, rfl⟩ := some3 hr
          clear hr
          go_wp2_with fail
          go_quiet ((go_at_call 59; exact Calls.quiet_of_same (in_rc (HTX.out.drewN _) (by omega) _)))
          all_goals (go_wp2_with fail)
          all_goals (go_ret)
          all_goals (exact ⟨ret_nat rfl, (H0.out.below (pw_below_drewN (Below.refl _ _) _)).nx⟩)
end
end Go.Proofs.Yticbjhicjegfoaa.Q
