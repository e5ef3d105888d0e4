/- What a proof further on needs (part m). -/
import Derived.Test.YtibepkblgliooaaKg
set_option linter.unusedVariables false
namespace Go.Proofs.Ytibepkblgliooaa.Q
open Go.RowKit
open Go.Proofs.YtibepkblgliooaaW.PrintWords
theorem lit1 (s : ByteArray) : beqB s (⟨#[124, 124]⟩ : ByteArray) = (s.toList == [124, 124]) := (lit_beq _ _).symm
theorem lit2 (s : ByteArray) : beqB s (⟨#[38, 38]⟩ : ByteArray) = (s.toList == [38, 38]) := (lit_beq _ _).symm
section
variable {n k : Nat} {ks : List Nat} {S S' : Ps} {w : World} {a : Nat} {ok : Nat → Prop} {v : Value}
set_option maxHeartbeats 3200000 in
set_option maxRecDepth 100000 in
theorem binary_w {level : Nat} (hlv : level ≤ 6) (G : ∀ m, m < n → Good m) (hr : run n (.binary level) S = some (k, ks, S')) (h : PI w a ok v S) : Calls Try.prog 96 #[ptr a, .int .i64 level] w (Ret w a ok k S') := by
  cases n with
  | zero => cases hr
  | succ n =>
  have hG := G n (Nat.lt_succ_self n)
  change binaryF (run n) level S = _ at hr
  have H0 := hid (At.start h)
  have HG := hid G
  clear G h
  unfold binaryF at hr
  have HR0 := hid hr
  clear hr
  unfold ptr
  go_enter Try.func96, Try.ntmps96
  go_wp2_with fail
  refine (rows_c w).mono ?_
  rintro e w1 ⟨b, rfl, hrows, hb1⟩
  have H1 := hid (H0.out.below hb1)
  have hlo : ∀ k, ok k → k < w.heap.size := H0.out.p.lo
  have hla : a < w.heap.size := H0.out.p.lt
  have HRW := hid (Beside.start hrows hlo hla)
  clear hrows hb1 hlo hla H0
  have hr := HR0.out
  clear HR0
  rcases Nat.eq_or_lt_of_le hlv with h6 | h6
  · skip
    rw [if_pos h6] at hr
    have HX := hid hr
    subst h6
    clear hr HG
    go_wp2_with fail
    refine (hG.unary HX.out H1.out.p).mono ?_
    rintro e w2 ⟨rfl, hN⟩
    obtain ⟨ok2, v2, h2, m2⟩ := H1.out.call hN
    have H2 := hid h2
    clear hN h2 m2 H1
    go_wp2_with fail
    go_ret
    exact ⟨ret_nat rfl, H2.out.nx⟩
  · skip
    rw [if_neg (by omega)] at hr
    obtain ⟨⟨x1, x2, x3⟩, hx, hr2⟩ := Option.bind_eq_some_iff.1 hr
    have HX := hid hx
    clear hr hx
    dsimp only at hr2
    have hr := hr2
    clear hr2
    have HR1 := hid hr
    clear hr
    have hb1 := hG.binary (level := level + 1) HX.out (by omega) H1.out.p
    rw [show ((level + 1 : Nat) : Int) = (level : Int) + 1 from rfl] at hb1
    have hl0 : (0 : Int) ≤ (level : Int) := by omega
    have hl1 : (level : Int) ≤ 5 := by omega
    have hl6 : (level : Int) < 6 := by omega
    have HB1 := hid hb1
    clear hb1
    go_wp2_with fail
    refine (HB1.out).mono ?_
    rintro e w2 ⟨rfl, hN⟩
    obtain ⟨ok2, v2, h2, m2⟩ := H1.out.call hN
    have H2 := hid h2
    replace HRW := hid (HRW.out.mv m2)
    clear hN h2 m2 H1
    clear hG HX HB1
    go_wp2_with fail
    go_loopg [6] n (fun g x wx => ∃ okx vx Sx kx, g ≤ n ∧ x = .int .i64 (kx : Nat) ∧ Box (run g (.binL level kx) Sx = some (k, ks, S')) ∧ Box (At w a ok wx okx vx Sx) ∧ Box (Beside wx a okx b))
    case atStart => exact ⟨_, _, _, _, Nat.le_refl _, rfl, HR1, H2, HRW⟩
    case round =>
      clear H2 HR1 HRW
      obtain ⟨okx, vx, Sx, kx, hgk, rfl, HR, H0, HRW⟩ := hrel
      have hr := HR.out
      clear HR
      cases gk with
      | zero => cases hr
      | succ gk =>
      have hG := HG.out gk (by omega)
      clear HG
      change binLF (run gk) level kx Sx = _ at hr
      unfold binLF at hr
      obtain ⟨row, hrow⟩ : ∃ row, rowsL[level]? = some row := ⟨_, List.getElem?_eq_getElem (by show level < 6; omega)⟩
      obtain ⟨bl, cb, htx⟩ := HRW.out.row hrow
      have hin : inRow level Sx.t.text = row.any (fun x => beqB x Sx.t.text) := by unfold inRow; rw [hrow]; rfl
      rw [hin] at hr
      have hrl : row.length ≤ 4 := by
        have : ∀ x ∈ rowsL, x.length ≤ 4 := by decide
        exact this row (List.mem_of_getElem? hrow)
      have HTX := hid htx
      clear htx hrow hin
      have c9 := H0.out.p.c9
      have c1 := H0.out.p.c1
      have c2 := H0.out.p.c2
      rcases Bool.eq_false_or_eq_true (Sx.bad) with hb | hb
      · skip
        rw [if_neg (by simp [hb])] at hr
        rw [hb] at c9
        clear hb
        obtain ⟨rfl, rfl, rfl⟩ := some3 hr
        clear hr
        go_wp2_with fail
        go_quiet ((go_at_call 48; exact Calls.quiet_of_same (in_rc (HTX.out.drewN _) (by omega) _)))
        all_goals (go_wp2_with fail)
        all_goals (go_ret)
        all_goals (exact ⟨ret_nat rfl, (H0.out.below (pw_below_drewN (Below.refl _ _) _)).nx⟩)
      · skip
        rw [hb] at c9
        rcases Bool.eq_false_or_eq_true (decide (Sx.t.kind = 5)) with hk5 | hk5
        · skip
          have hk : Sx.t.kind = 5 := by simpa using hk5
          rw [hk] at c1
          rcases Bool.eq_false_or_eq_true (row.any (fun x => beqB x Sx.t.text)) with hi | hi
          · skip
            rw [if_pos (by simp [hb, hk5, hi])] at hr
            have HI := hid hi
            clear hb hk5 hk hi
            obtain ⟨⟨x1, x2, x3⟩, hx, hr2⟩ := Option.bind_eq_some_iff.1 hr
            have HX := hid hx
            clear hr hx
            dsimp only at hr2
            have hr := hr2
            clear hr2
            obtain ⟨q, hq, hr2⟩ := Option.bind_eq_some_iff.1 hr
            have HQ := hid hq
            clear hr hq
            have hr := hr2
            clear hr2
            obtain ⟨⟨y1, y3⟩, hy, hr2⟩ := Option.bind_eq_some_iff.1 hr
            have HY := hid hy
            have HRR := hid hr2
            clear hr hy hr2
            go_wp2_with fail
            go_quiet ((go_at_call 48; exact Calls.quiet_of_same (among_hit (HTX.out.drewN _) (by omega) Sx.t.text HI.out)))
            go_wp2_with fail
            clear c9 c1 c2 cb HTX
            replace H0 := hid (H0.out.below (pw_below_drewN (Below.refl _ _) nq))
            replace HRW := hid (HRW.out.below (pw_below_drewN (Below.refl _ _) nq))
            refine (move_c H0.out.p).mono ?_
            rintro e w1 ⟨rfl, hN⟩
            obtain ⟨ok1, v1, h1, m1⟩ := H0.out.call hN
            have H1 := hid h1
            replace HRW := hid (HRW.out.mv m1)
            clear hN h1 m1 H0
            have hb1 := hG.binary (level := level + 1) HX.out (by omega) H1.out.p
            rw [show ((level + 1 : Nat) : Int) = (level : Int) + 1 from rfl] at hb1
            have HB1 := hid hb1
            clear hb1
            go_wp2_with fail
            refine (HB1.out).mono ?_
            rintro e w2 ⟨rfl, hN⟩
            obtain ⟨ok2, v2, h2, m2⟩ := H1.out.call hN
            have H2 := hid h2
            replace HRW := hid (HRW.out.mv m2)
            clear hN h2 m2 H1
            clear hG HX HB1
            obtain ⟨nd0, hnd, rfl⟩ := Option.map_eq_some_iff.1 (show Option.map Nd.at_ _ = some q from HQ.out)
            obtain ⟨g0, cap0, ev, lg, lk, q0, q5⟩ := H2.out.p.node hnd
            have c7 := H2.out.p.c7
            rw [ev] at c7
            have lk' : (kx : Int) < (_ : Nat) := Int.ofNat_lt.2 lk
            have la := H2.out.p.lt
            clear hnd ev lk
            have HS := hid (At.start H2.out.p)
            rcases Bool.eq_false_or_eq_true (beqB Sx.t.text (⟨#[124, 124]⟩ : ByteArray)) with hc1 | hc1
            · skip
              have hy := HY.out
              rw [show binNd Sx.t.text [kx, x1] nd0.at_ = nd 17 [kx, x1] nd0.at_ by simp [binNd, hc1]] at hy
              replace HY := hid hy
              clear hy
              have hc2 : beqB Sx.t.text (⟨#[38, 38]⟩ : ByteArray) = false := by rw [(beqB_iff _ _).1 hc1]; decide
              rw [lit1] at hc1
              rw [lit2] at hc2
              go_wp2_with fail
              clear q0 q5 c7 lk' la lg
              have L := hid (LR.two HS.out kx x1)
              replace HS := hid (HS.out.alloc (.cells #[.int .i64 (kx : Nat), .int .i64 (x1 : Nat)] 3))
              replace HS := hid (HS.out.alloc (.cells #[.int .i64 17, .int .i64 0, .string ⟨#[]⟩, .slice none 0 0, .slice (some ⟨w2.heap.size, 0, none⟩) 2 2, .int .i64 (nd0.at_ : Nat)] 37))
              replace L := hid (L.out.below ((Below.refl _ _).alloc (Nat.le_refl _) (.cells #[.int .i64 17, .int .i64 0, .string ⟨#[]⟩, .slice none 0 0, .slice (some ⟨w2.heap.size, 0, none⟩) 2 2, .int .i64 (nd0.at_ : Nat)] 37)))
              refine (put_row HS.out L.out HY.out).mono ?_
              rintro e w3 ⟨rfl, hN⟩
              obtain ⟨ok3, v3, h3, m3⟩ := H2.out.call hN
              have H3 := hid h3
              replace HRW := hid (HRW.out.mv m3)
              clear hN h3 m3 H2 HS L hc1 hc2
              go_wp2_with fail
              go_roundg gk
              case measure => omega
              case rel => exact ⟨_, _, _, _, by omega, rfl, HRR, H3, HRW⟩
            · skip
              rcases Bool.eq_false_or_eq_true (beqB Sx.t.text (⟨#[38, 38]⟩ : ByteArray)) with hc2 | hc2
              · skip
                have hy := HY.out
                rw [show binNd Sx.t.text [kx, x1] nd0.at_ = nd 16 [kx, x1] nd0.at_ by simp [binNd, hc1, hc2]] at hy
                replace HY := hid hy
                clear hy
                rw [lit1] at hc1
                rw [lit2] at hc2
                go_wp2_with fail
                clear q0 q5 c7 lk' la lg
                have L := hid (LR.two HS.out kx x1)
                replace HS := hid (HS.out.alloc (.cells #[.int .i64 (kx : Nat), .int .i64 (x1 : Nat)] 3))
                replace HS := hid (HS.out.alloc (.cells #[.int .i64 16, .int .i64 0, .string ⟨#[]⟩, .slice none 0 0, .slice (some ⟨w2.heap.size, 0, none⟩) 2 2, .int .i64 (nd0.at_ : Nat)] 37))
                replace L := hid (L.out.below ((Below.refl _ _).alloc (Nat.le_refl _) (.cells #[.int .i64 16, .int .i64 0, .string ⟨#[]⟩, .slice none 0 0, .slice (some ⟨w2.heap.size, 0, none⟩) 2 2, .int .i64 (nd0.at_ : Nat)] 37)))
                refine (put_row HS.out L.out HY.out).mono ?_
                rintro e w3 ⟨rfl, hN⟩
                obtain ⟨ok3, v3, h3, m3⟩ := H2.out.call hN
                have H3 := hid h3
                replace HRW := hid (HRW.out.mv m3)
                clear hN h3 m3 H2 HS L hc1 hc2
                go_wp2_with fail
                go_roundg gk
                case measure => omega
                case rel => exact ⟨_, _, _, _, by omega, rfl, HRR, H3, HRW⟩
              · skip
                have hy := HY.out
                rw [show binNd Sx.t.text [kx, x1] nd0.at_ = ndT 15 Sx.t.text [kx, x1] nd0.at_ by simp [binNd, hc1, hc2]] at hy
                replace HY := hid hy
                clear hy
                rw [lit1] at hc1
                rw [lit2] at hc2
                go_wp2_with fail
                clear q0 q5 c7 lk' la lg
                have L := hid (LR.two HS.out kx x1)
                replace HS := hid (HS.out.alloc (.cells #[.int .i64 (kx : Nat), .int .i64 (x1 : Nat)] 3))
                replace HS := hid (HS.out.alloc (.cells #[.int .i64 15, .int .i64 0, .string Sx.t.text, .slice none 0 0, .slice (some ⟨w2.heap.size, 0, none⟩) 2 2, .int .i64 (nd0.at_ : Nat)] 37))
                replace L := hid (L.out.below ((Below.refl _ _).alloc (Nat.le_refl _) (.cells #[.int .i64 15, .int .i64 0, .string Sx.t.text, .slice none 0 0, .slice (some ⟨w2.heap.size, 0, none⟩) 2 2, .int .i64 (nd0.at_ : Nat)] 37)))
                refine (put_row HS.out L.out HY.out).mono ?_
                rintro e w3 ⟨rfl, hN⟩
                obtain ⟨ok3, v3, h3, m3⟩ := H2.out.call hN
                have H3 := hid h3
                replace HRW := hid (HRW.out.mv m3)
                clear hN h3 m3 H2 HS L hc1 hc2
                go_wp2_with fail
                go_roundg gk
                case measure => omega
                case rel => exact ⟨_, _, _, _, by omega, rfl, HRR, H3, HRW⟩
          · skip
            rw [if_neg (by simp [hi])] at hr
            have HI := hid hi
            clear hb hk5 hk hi
            obtain ⟨rfl, rfl, rfl⟩ := some3 hr
            clear hr
            go_wp2_with fail
            go_quiet ((go_at_call 48; exact Calls.quiet_of_same (among_hit (HTX.out.drewN _) (by omega) Sx.t.text HI.out)))
            go_wp2_with fail
            go_ret
            exact ⟨ret_nat rfl, (H0.out.below (pw_below_drewN (Below.refl _ _) _)).nx⟩
        · skip
          have hk : (Sx.t.kind == 5) = false := by simpa using hk5
          rw [if_neg (by simp [hk5])] at hr
          clear hb hk5
          obtain ⟨rfl, rfl, rfl⟩ := some3 hr
          clear hr
          go_wp2_with fail
          go_quiet ((go_at_call 48; exact Calls.quiet_of_same (in_rc (HTX.out.drewN _) (by omega) _)))
          all_goals (go_wp2_with fail)
          all_goals (go_ret)
          all_goals (exact ⟨ret_nat rfl, (H0.out.below (pw_below_drewN (Below.refl _ _) _)).nx⟩)
end
end Go.Proofs.Ytibepkblgliooaa.Q
namespace Go.Proofs.Ytibepkblgliooaa.Q
open Go.RowKit
open Go.Proofs.YtibepkblgliooaaW.PrintWords
section
variable {P : Program} {ops : Array Oper} {rest : List Oper} {o : Oper} {act : Act} {Q : Exit → Act → World → Prop}
variable {w0 w : World} {a n2 : Nat} {ok0 ok : Nat → Prop} {v val val2 : Value} {S : Ps} {ks ks2 : List Nat}
/-- append(row, more...), both beside the parser, the second made later. -/
theorem LR.rows_wp (hgd : o.guard = none) (s x : Operand) (ho : o.op = .call { callee := .builtin .append, args := #[s, x], argTypes := #[35, 35] })
    (h : At w0 a ok0 w ok v S) (hl : LR w0.heap.size w a ok val ks) (hl2 : LR n2 w a ok val2 ks2) (hn2 : w0.heap.size ≤ n2) (hne : ∀ k, val.ownBlock = some k → k < n2) (hm : ks.length ≤ 1000) (hm2 : ks2.length ≤ 1048576) (hs : act.eval s = val) (hx : act.eval x = val2)
    (hq : ∀ val1 w1, At w0 a ok0 w1 ok v S → LR w0.heap.size w1 a ok val1 (ks ++ ks2) → wpList Try.prog ops Q rest (act.put o.dst val1) w1) :
    wpList Try.prog ops Q (o :: rest) act w := by
  obtain ⟨okl, h1, h2⟩ := id hl
  obtain ⟨okm, h3, h4⟩ := id hl2
  obtain ⟨A, c, e⟩ := Kd.N_slice h3
  subst e
  refine Kd.N_append_rows (Kd.int .i64) (w0 := w) 0 hgd s x 35 3 (.int .i64 0) 8 ho Try.underlying35 infoInt rfl (by decide) (by decide) val (ints ks) (ints ks2) A (ints ks2).length c (fun j => okl j ∨ okm j ∨ w.heap.size ≤ j) okm hs hx
    (Kd.N_mono h1 (fun _ hk => .inl hk)) (Kd.N_F h3) (fun k hk => ⟨.inr (.inl hk), fun e => by have := hne k e.symm; have := (h4 k hk).1; omega⟩) (fun _ hk => .inr (.inr hk)) (Below.refl _ _) (Nat.zero_le _) (by rw [ints_length, ints_length]; omega) ?_
  intro val1 w1 hN _ hg _
  have e : ints ks ++ ints ks2 = ints (ks ++ ks2) := by simp [ints]
  rw [e] at hN
  refine hq val1 w1 (h.grown hl (Nat.le_refl _) hg) ⟨fun k => (okl k ∨ okm k ∨ w.heap.size ≤ k) ∧ k < w1.heap.size, Kd.N_bound hN, fun k hk => ?_⟩
  rcases hk.1 with h' | h' | h'
  · exact ⟨(h2 k h').1, hk.2, (h2 k h').2.2⟩
  · exact ⟨Nat.le_trans hn2 (h4 k h').1, hk.2, (h4 k h').2.2⟩
  · exact ⟨Nat.le_trans h.kp.size h', hk.2, fun ho => by have := h.p.lo k ho; omega, fun e => by have := h.p.lt; omega⟩
end
section
variable {n k : Nat} {ks : List Nat} {S S' : Ps} {w : World} {a : Nat} {ok : Nat → Prop} {v : Value}
set_option maxHeartbeats 3200000 in
set_option maxRecDepth 100000 in
theorem post_w (G : ∀ m, m < n → Good m) (hr : run n .post S = some (k, ks, S')) (h : PI w a ok v S) : Calls Try.prog 99 #[ptr a] w (Ret w a ok k S') := by
  cases n with
  | zero => cases hr
  | succ n =>
  have hG := G n (Nat.lt_succ_self n)
  change postF (run n) S = _ at hr
  have H0 := hid (At.start h)
  have HG := hid G
  clear G h
  unfold postF at hr
  rcases Bool.eq_false_or_eq_true (S.inn.bad) with hb | hb
  · skip
    rw [if_pos hb] at hr
    obtain ⟨rfl, rfl, rfl⟩ := some3 hr
    clear hr
    have HE := hid (in_hit H0.out.p hb)
    clear hb HG hG
    unfold ptr
    go_enter Try.func99, Try.ntmps99
    go_wp2_with fail
    refine (HE.out).mono ?_
    rintro e w1 ⟨rfl, hN⟩
    obtain ⟨ok1, v1, h1, m1⟩ := H0.out.call hN
    have H1 := hid h1
    clear hN h1 m1 H0
    go_wp2_with fail
    go_ret
    exact ⟨ret_nat rfl, H1.out.nx⟩
  · skip
    rw [if_f hb] at hr
    obtain ⟨⟨x1, x2, x3⟩, hx, hr2⟩ := Option.bind_eq_some_iff.1 hr
    have HX := hid hx
    clear hr hx
    dsimp only at hr2
    have hr := hr2
    clear hr2
    have HE := hid (in_hit H0.out.p hb)
    have HR1 := hid hr
    clear hb hr
    unfold ptr
    go_enter Try.func99, Try.ntmps99
    go_wp2_with fail
    refine (HE.out).mono ?_
    rintro e w1 ⟨rfl, hN⟩
    obtain ⟨ok1, v1, h1, m1⟩ := H0.out.call hN
    have H1 := hid h1
    clear hN h1 m1 H0
    go_wp2_with fail
    refine (hG.first HX.out H1.out.p).mono ?_
    rintro e w2 ⟨rfl, hN⟩
    obtain ⟨ok2, v2, h2, m2⟩ := H1.out.call hN
    have H2 := hid h2
    clear hN h2 m2 H1
    clear hG HX HE
    go_wp2_with fail
    go_loopg [3] n (fun g x wx => ∃ okx vx Sx kx, g ≤ n ∧ x = .int .i64 (kx : Nat) ∧ Box (run g (.postL kx) Sx = some (k, ks, S')) ∧ Box (At w a ok wx okx vx Sx))
    case atStart => exact ⟨_, _, _, _, Nat.le_refl _, rfl, HR1, H2⟩
    case round =>
      clear H2 HR1
      obtain ⟨okx, vx, Sx, kx, hgk, rfl, HR, H0⟩ := hrel
      have hr := HR.out
      clear HR
      cases gk with
      | zero => cases hr
      | succ gk =>
      have hG := HG.out gk (by omega)
      clear HG
      change postLF (run gk) kx Sx = _ at hr
      unfold postLF at hr
      have c9 := H0.out.p.c9
      rcases Bool.eq_false_or_eq_true (Sx.bad) with hb | hb
      · skip
        rw [if_pos hb] at hr
        obtain ⟨rfl, rfl, rfl⟩ := some3 hr
        clear hr
        rw [hb] at c9
        clear hb
        go_wp2_with fail
        clear c9
        refine (out_c H0.out.p).mono ?_
        rintro e w1 ⟨rfl, hN⟩
        obtain ⟨ok1, v1, h1, m1⟩ := H0.out.call hN
        have H1 := hid h1
        clear hN h1 m1 H0
        go_wp2_with fail
        go_ret
        exact ⟨ret_nat rfl, H1.out.nx⟩
      · skip
        rw [if_f hb] at hr
        rw [hb] at c9
        clear hb
        obtain ⟨q, hq, hr2⟩ := Option.bind_eq_some_iff.1 hr
        have HQ := hid hq
        clear hr hq
        have hr := hr2
        clear hr2
        have HR0 := hid hr
        clear hr
        obtain ⟨nd0, hnd, rfl⟩ := Option.map_eq_some_iff.1 (show Option.map Nd.at_ _ = some q from HQ.out)
        obtain ⟨g0, cap0, ev, lg, lk, q0, q5⟩ := H0.out.p.node hnd
        have c7 := H0.out.p.c7
        rw [ev] at c7
        have lk' : (kx : Int) < (_ : Nat) := Int.ofNat_lt.2 lk
        have la := H0.out.p.lt
        clear hnd ev lk
        go_wp2_with fail
        clear c9 q0 q5 c7 lk' la lg
        have hr := HR0.out
        clear HR0
        rcases Bool.eq_false_or_eq_true ((Sx).hasB (⟨#[46]⟩ : ByteArray)) with hb | hb
        · skip
          rw [if_pos hb] at hr
          refine (has_hit H0.out.p (⟨#[46]⟩ : ByteArray) hb).mono ?_
          rintro e w1 ⟨rfl, hN⟩
          obtain ⟨ok1, v1, h1, m1⟩ := H0.out.call hN
          have H1 := hid h1
          clear hN h1 m1 H0
          clear hb
          have c1 := H1.out.p.c1
          have c2 := H1.out.p.c2
          have c3 := H1.out.p.c3
          have c4 := H1.out.p.c4
          have c5 := H1.out.p.c5
          rcases Bool.eq_false_or_eq_true (!decide (Sx.move.t.kind = 3) && !decide (Sx.move.t.kind = 4)) with hk0 | hk0
          · skip
            have hk : ¬ Sx.move.t.kind = 3 ∧ ¬ Sx.move.t.kind = 4 := by simpa using hk0
            rw [if_pos hk0] at hr
            obtain ⟨hk1, hk2⟩ := hk
            have hk3 : (Sx.move.t.kind != 3) = true := by simpa using hk1
            have hk4 : (Sx.move.t.kind != 4) = true := by simpa using hk2
            obtain ⟨rfl, rfl, rfl⟩ := some3 hr
            clear hr
            have c9 := H1.out.p.c9
            have f9 := H1.out.p.f 9
            have la := H1.out.p.lt
            go_wp2_with fail
            clear c1 c2 c3 c4 c5 c9 f9 la
            clear hk0 hk1 hk2 hk3 hk4 hG
            replace H1 := hid (H1.out.spoilA.alloc (.cells #[.int .i64 Sx.move.t.kind, .string Sx.move.t.text, .int .i64 Sx.move.t.num, .int .i64 (Sx.move.t.at_ : Nat), .bool Sx.move.t.line] 55))
            refine (out_c H1.out.p).mono ?_
            rintro e w2 ⟨rfl, hN⟩
            obtain ⟨ok2, v2, h2, m2⟩ := H1.out.call hN
            have H2 := hid h2
            clear hN h2 m2 H1
            go_wp2_with fail
            go_ret
            exact ⟨ret_nat rfl, H2.out.nx⟩
          · skip
            have hk : Sx.move.t.kind = 3 ∨ Sx.move.t.kind = 4 := by simp only [Bool.and_eq_false_iff, Bool.not_eq_false', decide_eq_true_eq] at hk0; exact hk0
            rw [if_f hk0] at hr
            clear hk0
            obtain ⟨⟨y1, y3⟩, hy, hr2⟩ := Option.bind_eq_some_iff.1 hr
            have HY := hid hy
            have HRR := hid hr2
            clear hr hy hr2
            rcases hk with hk | hk
            · skip
              rw [hk] at c1
              clear hk
              go_wp2_with fail
              clear c1 c2 c3 c4 c5
              have hnb : ¬ ok1 w1.heap.size := fun h => by have := H1.out.p.lo _ h; omega
              have hna : w1.heap.size ≠ a := fun e => by have := H1.out.p.lt; omega
              replace H1 := hid (H1.out.alloc (.cells #[.int .i64 3, .string Sx.move.t.text, .int .i64 Sx.move.t.num, .int .i64 (Sx.move.t.at_ : Nat), .bool Sx.move.t.line] 55))
              have t1 : (w1.alloc (.cells #[.int .i64 3, .string Sx.move.t.text, .int .i64 Sx.move.t.num, .int .i64 (Sx.move.t.at_ : Nat), .bool Sx.move.t.line] 55)).cell? ⟨w1.heap.size, 1, none⟩ = some (.string Sx.move.t.text) := (cell_of_row _ _ 1 _ _ _ (heap_alloc_new w1 (.cells #[.int .i64 3, .string Sx.move.t.text, .int .i64 Sx.move.t.num, .int .i64 (Sx.move.t.at_ : Nat), .bool Sx.move.t.line] 55))).trans rfl
              refine (move_c H1.out.p).mono ?_
              rintro e w2 ⟨rfl, hN⟩
              obtain ⟨ok2, v2, h2, m2⟩ := H1.out.call hN
              have H2 := hid h2
              replace t1 := m2.cell t1 hna hnb
              clear hN h2 m2 H1 hna hnb
              have HS := hid (At.start H2.out.p)
              go_wp2_with fail
              have L := hid (LR.one HS.out kx)
              replace HS := hid (HS.out.alloc (.cells #[.int .i64 (kx : Nat)] 3))
              clear t1
              refine (put_row HS.out L.out HY.out).mono ?_
              rintro e w3 ⟨rfl, hN⟩
              obtain ⟨ok3, v3, h3, m3⟩ := H2.out.call hN
              have H3 := hid h3
              clear hN h3 m3 H2 HS L
              clear hG
              go_wp2_with fail
              go_roundg gk
              case measure => omega
              case rel => exact ⟨_, _, _, _, by omega, rfl, HRR, H3⟩
            · skip
              rw [hk] at c1
              clear hk
              go_wp2_with fail
              clear c1 c2 c3 c4 c5
              have hnb : ¬ ok1 w1.heap.size := fun h => by have := H1.out.p.lo _ h; omega
              have hna : w1.heap.size ≠ a := fun e => by have := H1.out.p.lt; omega
              replace H1 := hid (H1.out.alloc (.cells #[.int .i64 4, .string Sx.move.t.text, .int .i64 Sx.move.t.num, .int .i64 (Sx.move.t.at_ : Nat), .bool Sx.move.t.line] 55))
              have t1 : (w1.alloc (.cells #[.int .i64 4, .string Sx.move.t.text, .int .i64 Sx.move.t.num, .int .i64 (Sx.move.t.at_ : Nat), .bool Sx.move.t.line] 55)).cell? ⟨w1.heap.size, 1, none⟩ = some (.string Sx.move.t.text) := (cell_of_row _ _ 1 _ _ _ (heap_alloc_new w1 (.cells #[.int .i64 4, .string Sx.move.t.text, .int .i64 Sx.move.t.num, .int .i64 (Sx.move.t.at_ : Nat), .bool Sx.move.t.line] 55))).trans rfl
              refine (move_c H1.out.p).mono ?_
              rintro e w2 ⟨rfl, hN⟩
              obtain ⟨ok2, v2, h2, m2⟩ := H1.out.call hN
              have H2 := hid h2
              replace t1 := m2.cell t1 hna hnb
              clear hN h2 m2 H1 hna hnb
              have HS := hid (At.start H2.out.p)
              go_wp2_with fail
              have L := hid (LR.one HS.out kx)
              replace HS := hid (HS.out.alloc (.cells #[.int .i64 (kx : Nat)] 3))
              clear t1
              refine (put_row HS.out L.out HY.out).mono ?_
              rintro e w3 ⟨rfl, hN⟩
              obtain ⟨ok3, v3, h3, m3⟩ := H2.out.call hN
              have H3 := hid h3
              clear hN h3 m3 H2 HS L
              clear hG
              go_wp2_with fail
              go_roundg gk
              case measure => omega
              case rel => exact ⟨_, _, _, _, by omega, rfl, HRR, H3⟩
        · skip
          rw [if_f hb] at hr
          refine (has_miss H0.out.p (⟨#[46]⟩ : ByteArray) hb).mono ?_
          rintro e w1 ⟨rfl, hN⟩
          obtain ⟨ok1, v1, h1, m1⟩ := H0.out.call hN
          have H1 := hid h1
          clear hN h1 m1 H0
          clear hb
          have HR0 := hid hr
          clear hr
          go_wp2_with fail
          have hr := HR0.out
          clear HR0
          rcases Bool.eq_false_or_eq_true ((Sx).hasB (⟨#[91]⟩ : ByteArray)) with hb | hb
          · skip
            rw [if_pos hb] at hr
            refine (has_hit H1.out.p (⟨#[91]⟩ : ByteArray) hb).mono ?_
            rintro e w2 ⟨rfl, hN⟩
            obtain ⟨ok2, v2, h2, m2⟩ := H1.out.call hN
            have H2 := hid h2
            clear hN h2 m2 H1
            clear hb
            obtain ⟨⟨x1, x2, x3⟩, hx, hr2⟩ := Option.bind_eq_some_iff.1 hr
            have HX := hid hx
            clear hr hx
            dsimp only at hr2
            have hr := hr2
            clear hr2
            obtain ⟨⟨y1, y3⟩, hy, hr2⟩ := Option.bind_eq_some_iff.1 hr
            have HY := hid hy
            have HRR := hid hr2
            clear hr hy hr2
            go_wp2_with fail
            refine (hG.e HX.out H2.out.p).mono ?_
            rintro e w3 ⟨rfl, hN⟩
            obtain ⟨ok3, v3, h3, m3⟩ := H2.out.call hN
            have H3 := hid h3
            clear hN h3 m3 H2
            go_wp2_with fail
            refine (must_c H3.out.p (⟨#[93]⟩ : ByteArray)).mono ?_
            rintro e w4 ⟨rfl, hN⟩
            obtain ⟨ok4, v4, h4, m4⟩ := H3.out.call hN
            have H4 := hid h4
            clear hN h4 m4 H3
            have HS := hid (At.start H4.out.p)
            go_wp2_with fail
            have L := hid (LR.two HS.out kx x1)
            replace HS := hid (HS.out.alloc (.cells #[.int .i64 (kx : Nat), .int .i64 (x1 : Nat)] 3))
            refine (put_row HS.out L.out HY.out).mono ?_
            rintro e w5 ⟨rfl, hN⟩
            obtain ⟨ok5, v5, h5, m5⟩ := H4.out.call hN
            have H5 := hid h5
            clear hN h5 m5 H4 HS L
            clear hG
            go_wp2_with fail
            go_roundg gk
            case measure => omega
            case rel => exact ⟨_, _, _, _, by omega, rfl, HRR, H5⟩
          · skip
            rw [if_f hb] at hr
            refine (has_miss H1.out.p (⟨#[91]⟩ : ByteArray) hb).mono ?_
            rintro e w2 ⟨rfl, hN⟩
            obtain ⟨ok2, v2, h2, m2⟩ := H1.out.call hN
            have H2 := hid h2
            clear hN h2 m2 H1
            clear hb
            have HR0 := hid hr
            clear hr
            go_wp2_with fail
            have hr := HR0.out
            clear HR0
            rcases Bool.eq_false_or_eq_true ((Sx).hasB (⟨#[40]⟩ : ByteArray)) with hb | hb
            · skip
              rw [if_pos hb] at hr
              refine (has_hit H2.out.p (⟨#[40]⟩ : ByteArray) hb).mono ?_
              rintro e w3 ⟨rfl, hN⟩
              obtain ⟨ok3, v3, h3, m3⟩ := H2.out.call hN
              have H3 := hid h3
              clear hN h3 m3 H2
              clear hb
              obtain ⟨⟨x1, x2, x3⟩, hx, hr2⟩ := Option.bind_eq_some_iff.1 hr
              have HX := hid hx
              clear hr hx
              dsimp only at hr2
              have hr := hr2
              clear hr2
              split at hr
              rotate_left
              · cases hr
              rename_i hlen
              obtain ⟨⟨y1, y3⟩, hy, hr2⟩ := Option.bind_eq_some_iff.1 hr
              have HY := hid hy
              have HRR := hid hr2
              clear hr hy hr2
              have HS := hid (At.start H3.out.p)
              go_wp2_with fail
              have L := hid (LR.one HS.out kx)
              replace HS := hid (HS.out.alloc (.cells #[.int .i64 (kx : Nat)] 3))
              refine (hG.commas HX.out HS.out.p).mono ?_
              rintro e w4 ⟨val, ok4, v4, rfl, g1, l1⟩
              obtain ⟨h1, m1⟩ := HS.out.trans g1
              have HS1 := hid h1
              have L1 := hid (L.out.mv m1)
              have L2 := hid l1
              clear HS L g1 l1 h1 m1
              go_wp2_with (at_builtin; refine LR.rows_wp rfl _ _ rfl HS1.out L1.out L2.out (by simp) (fun k hk => by simp [Value.ownBlock] at hk; subst hk; simp) (by simp) (by omega) rfl rfl ?_; intro val1 w9 h9 l9; obtain ⟨A9, c9', e9⟩ := l9.slice; subst e9; have HS := hid h9; have L := hid l9; clear h9 l9 HS1 L1 L2)
              refine (put_row HS.out L.out HY.out).mono ?_
              rintro e w4 ⟨rfl, hN⟩
              obtain ⟨ok4, v4, h4, m4⟩ := H3.out.call hN
              have H4 := hid h4
              clear hN h4 m4 H3 HS L
              clear hG
              go_wp2_with fail
              go_roundg gk
              case measure => omega
              case rel => exact ⟨_, _, _, _, by omega, rfl, HRR, H4⟩
            · skip
              rw [if_f hb] at hr
              refine (has_miss H2.out.p (⟨#[40]⟩ : ByteArray) hb).mono ?_
              rintro e w3 ⟨rfl, hN⟩
              obtain ⟨ok3, v3, h3, m3⟩ := H2.out.call hN
              have H3 := hid h3
              clear hN h3 m3 H2
              clear hb
              obtain ⟨rfl, rfl, rfl⟩ := some3 hr
              clear hr
              clear hG
              go_wp2_with fail
              refine (out_c H3.out.p).mono ?_
              rintro e w4 ⟨rfl, hN⟩
              obtain ⟨ok4, v4, h4, m4⟩ := H3.out.call hN
              have H4 := hid h4
              clear hN h4 m4 H3
              go_wp2_with fail
              go_ret
              exact ⟨ret_nat rfl, H4.out.nx⟩
end
end Go.Proofs.Ytibepkblgliooaa.Q
