/- What a proof further on needs (part k). -/
import Derived.Test.YtibepkblgliooaaKf
set_option linter.unusedVariables false
namespace Go.Proofs.Ytibepkblgliooaa.Q
open Go.RowKit
open Go.Proofs.YtibepkblgliooaaW.PrintWords
section
variable {n k : Nat} {ks : List Nat} {S S' : Ps} {w : World} {a : Nat} {ok : Nat → Prop} {v : Value}
set_option maxHeartbeats 1600000 in
set_option maxRecDepth 100000 in
theorem assign_w (G : ∀ m, m < n → Good m) (hr : run n .assign S = some (k, ks, S')) (h : PI w a ok v S) : Calls Try.prog 82 #[ptr a] w (Ret w a ok k S') := by
  cases n with
  | zero => cases hr
  | succ n =>
  have hG := G n (Nat.lt_succ_self n)
  change assignF (run n) S = _ at hr
  have H0 := hid (At.start h)
  clear G h
  unfold assignF at hr
  have c4 := H0.out.p.c4
  have HR0 := hid hr
  clear hr
  unfold ptr
  go_enter Try.func82, Try.ntmps82
  go_wp2_with fail
  clear c4
  have hr := HR0.out
  clear HR0
  rcases Bool.eq_false_or_eq_true ((S).hasB (⟨#[121, 105, 101, 108, 100]⟩ : ByteArray)) with hb | hb
  · skip
    rw [if_pos hb] at hr
    refine (has_hit H0.out.p (⟨#[121, 105, 101, 108, 100]⟩ : ByteArray) hb).mono ?_
    rintro e w1 ⟨rfl, hN⟩
    obtain ⟨ok1, v1, h1, m1⟩ := H0.out.call hN
    have H1 := hid h1
    clear hN h1 m1 H0
    clear hb
    obtain ⟨⟨x1, x2, x3⟩, hx, hr2⟩ := Option.bind_eq_some_iff.1 hr
    have HX := hid hx
    clear hr hx
    dsimp only at hr2
    have hr := hr2
    clear hr2
    obtain ⟨hr2, rfl⟩ := one1_some hr
    have HR := hid hr2
    clear hr hr2
    have HRR := HR
    clear HR
    go_wp2_with fail
    refine (hG.e HX.out H1.out.p).mono ?_
    rintro e w2 ⟨rfl, hN⟩
    obtain ⟨ok2, v2, h2, m2⟩ := H1.out.call hN
    have H2 := hid h2
    clear hN h2 m2 H1
    have L := hid (LR.one H2.out x1)
    replace H2 := hid (H2.out.alloc (.cells #[.int .i64 x1] 3))
    go_wp2_with fail
    refine (put_row H2.out L.out HRR.out).mono ?_
    rintro e wz ⟨rfl, hN⟩
    have HN := hid hN
    clear hN
    go_wp2_with fail
    go_ret
    exact ⟨ret_nat rfl, HN.out⟩
  · skip
    rw [if_f hb] at hr
    refine (has_miss H0.out.p (⟨#[121, 105, 101, 108, 100]⟩ : ByteArray) hb).mono ?_
    rintro e w1 ⟨rfl, hN⟩
    obtain ⟨ok1, v1, h1, m1⟩ := H0.out.call hN
    have H1 := hid h1
    clear hN h1 m1 H0
    clear hb
    obtain ⟨⟨x1, x2, x3⟩, hx, hr2⟩ := Option.bind_eq_some_iff.1 hr
    have HX := hid hx
    clear hr hx
    dsimp only at hr2
    have hr := hr2
    clear hr2
    go_wp2_with fail
    refine (hG.cond HX.out H1.out.p).mono ?_
    rintro e w2 ⟨rfl, hN⟩
    obtain ⟨ok2, v2, h2, m2⟩ := H1.out.call hN
    have H2 := hid h2
    clear hN h2 m2 H1
    have c9 := H2.out.p.c9
    rcases Bool.eq_false_or_eq_true (x3.bad) with hb | hb
    · skip
      rw [if_pos hb] at hr
      obtain ⟨rfl, rfl, rfl⟩ := some3 hr
      clear hr
      rw [hb] at c9
      clear hb
      go_wp2_with fail
      go_ret
      exact ⟨ret_nat rfl, H2.out.nx⟩
    · skip
      rw [if_f hb] at hr
      rw [hb] at c9
      clear hb
      obtain ⟨nn, hnn, hr2⟩ := Option.bind_eq_some_iff.1 hr
      clear hr
      have hr := hr2
      clear hr2
      obtain ⟨g0, cap0, ev, lg, lk, q0, _⟩ := H2.out.p.node hnn
      have c7 := H2.out.p.c7
      rw [ev] at c7
      have lk' : (x1 : Int) < (_ : Nat) := Int.ofNat_lt.2 lk
      clear ev lk hnn
      rcases Bool.eq_false_or_eq_true (decide (nn.kind = 3) || decide (nn.kind = 11) || decide (nn.kind = 12)) with hb | hb
      · skip
        have hk : nn.kind = 3 ∨ nn.kind = 11 ∨ nn.kind = 12 := by simpa [or_assoc] using hb
        rw [hb, Bool.true_and] at hr
        clear hb
        have HR0 := hid hr
        clear hr
        rcases hk with hk | hk | hk
        · skip
          rw [hk] at q0
          clear hk
          go_wp2_with fail
          clear c9 q0 c7 lk' lg
          have hr := HR0.out
          clear HR0
          rcases Bool.eq_false_or_eq_true ((x3).hasB (⟨#[61]⟩ : ByteArray)) with hb | hb
          · skip
            rw [if_pos hb] at hr
            refine (has_hit H2.out.p (⟨#[61]⟩ : ByteArray) hb).mono ?_
            rintro e w3 ⟨rfl, hN⟩
            obtain ⟨ok3, v3, h3, m3⟩ := H2.out.call hN
            have H3 := hid h3
            clear hN h3 m3 H2
            clear hb
            obtain ⟨⟨b1, b2, b3⟩, hb, hr2⟩ := Option.bind_eq_some_iff.1 hr
            have HB := hid hb
            clear hr hb
            dsimp only at hr2
            have hr := hr2
            clear hr2
            obtain ⟨q, hq, hr2⟩ := Option.bind_eq_some_iff.1 hr
            have HQ := hid hq
            clear hr hq
            have hr := hr2
            clear hr2
            obtain ⟨hr2, rfl⟩ := one1_some hr
            have HR := hid hr2
            clear hr hr2
            go_wp2_with fail
            refine (hG.e HB.out H3.out.p).mono ?_
            rintro e w4 ⟨rfl, hN⟩
            obtain ⟨ok4, v4, h4, m4⟩ := H3.out.call hN
            have H4 := hid h4
            clear hN h4 m4 H3
            obtain ⟨nd0, hnd, rfl⟩ := Option.map_eq_some_iff.1 (show Option.map Nd.at_ _ = some q from HQ.out)
            obtain ⟨g0, cap0, ev, lg, lk, q0, q5⟩ := H4.out.p.node hnd
            have c7 := H4.out.p.c7
            rw [ev] at c7
            have lk' : (x1 : Int) < (_ : Nat) := Int.ofNat_lt.2 lk
            have la := H4.out.p.lt
            clear hnd ev lk
            go_wp2_with fail
            clear q0 q5 c7 lk' la lg
            have L := hid (LR.two H4.out x1 b1)
            replace H4 := hid (H4.out.alloc (.cells #[.int .i64 x1, .int .i64 b1] 3))
            refine (put_row H4.out L.out HR.out).mono ?_
            rintro e wz ⟨rfl, hN⟩
            have HN := hid hN
            clear hN
            go_wp2_with fail
            go_ret
            exact ⟨ret_nat rfl, HN.out⟩
          · skip
            rw [if_f hb] at hr
            refine (has_miss H2.out.p (⟨#[61]⟩ : ByteArray) hb).mono ?_
            rintro e w3 ⟨rfl, hN⟩
            obtain ⟨ok3, v3, h3, m3⟩ := H2.out.call hN
            have H3 := hid h3
            clear hN h3 m3 H2
            clear hb
            obtain ⟨rfl, rfl, rfl⟩ := some3 hr
            clear hr
            go_wp2_with fail
            go_ret
            exact ⟨ret_nat rfl, H3.out.nx⟩
        · skip
          rw [hk] at q0
          clear hk
          go_wp2_with fail
          clear c9 q0 c7 lk' lg
          have hr := HR0.out
          clear HR0
          rcases Bool.eq_false_or_eq_true ((x3).hasB (⟨#[61]⟩ : ByteArray)) with hb | hb
          · skip
            rw [if_pos hb] at hr
            refine (has_hit H2.out.p (⟨#[61]⟩ : ByteArray) hb).mono ?_
            rintro e w3 ⟨rfl, hN⟩
            obtain ⟨ok3, v3, h3, m3⟩ := H2.out.call hN
            have H3 := hid h3
            clear hN h3 m3 H2
            clear hb
            obtain ⟨⟨b1, b2, b3⟩, hb, hr2⟩ := Option.bind_eq_some_iff.1 hr
            have HB := hid hb
            clear hr hb
            dsimp only at hr2
            have hr := hr2
            clear hr2
            obtain ⟨q, hq, hr2⟩ := Option.bind_eq_some_iff.1 hr
            have HQ := hid hq
            clear hr hq
            have hr := hr2
            clear hr2
            obtain ⟨hr2, rfl⟩ := one1_some hr
            have HR := hid hr2
            clear hr hr2
            go_wp2_with fail
            refine (hG.e HB.out H3.out.p).mono ?_
            rintro e w4 ⟨rfl, hN⟩
            obtain ⟨ok4, v4, h4, m4⟩ := H3.out.call hN
            have H4 := hid h4
            clear hN h4 m4 H3
            obtain ⟨nd0, hnd, rfl⟩ := Option.map_eq_some_iff.1 (show Option.map Nd.at_ _ = some q from HQ.out)
            obtain ⟨g0, cap0, ev, lg, lk, q0, q5⟩ := H4.out.p.node hnd
            have c7 := H4.out.p.c7
            rw [ev] at c7
            have lk' : (x1 : Int) < (_ : Nat) := Int.ofNat_lt.2 lk
            have la := H4.out.p.lt
            clear hnd ev lk
            go_wp2_with fail
            clear q0 q5 c7 lk' la lg
            have L := hid (LR.two H4.out x1 b1)
            replace H4 := hid (H4.out.alloc (.cells #[.int .i64 x1, .int .i64 b1] 3))
            refine (put_row H4.out L.out HR.out).mono ?_
            rintro e wz ⟨rfl, hN⟩
            have HN := hid hN
            clear hN
            go_wp2_with fail
            go_ret
            exact ⟨ret_nat rfl, HN.out⟩
          · skip
            rw [if_f hb] at hr
            refine (has_miss H2.out.p (⟨#[61]⟩ : ByteArray) hb).mono ?_
            rintro e w3 ⟨rfl, hN⟩
            obtain ⟨ok3, v3, h3, m3⟩ := H2.out.call hN
            have H3 := hid h3
            clear hN h3 m3 H2
            clear hb
            obtain ⟨rfl, rfl, rfl⟩ := some3 hr
            clear hr
            go_wp2_with fail
            go_ret
            exact ⟨ret_nat rfl, H3.out.nx⟩
        · skip
          rw [hk] at q0
          clear hk
          go_wp2_with fail
          clear c9 q0 c7 lk' lg
          have hr := HR0.out
          clear HR0
          rcases Bool.eq_false_or_eq_true ((x3).hasB (⟨#[61]⟩ : ByteArray)) with hb | hb
          · skip
            rw [if_pos hb] at hr
            refine (has_hit H2.out.p (⟨#[61]⟩ : ByteArray) hb).mono ?_
            rintro e w3 ⟨rfl, hN⟩
            obtain ⟨ok3, v3, h3, m3⟩ := H2.out.call hN
            have H3 := hid h3
            clear hN h3 m3 H2
            clear hb
            obtain ⟨⟨b1, b2, b3⟩, hb, hr2⟩ := Option.bind_eq_some_iff.1 hr
            have HB := hid hb
            clear hr hb
            dsimp only at hr2
            have hr := hr2
            clear hr2
            obtain ⟨q, hq, hr2⟩ := Option.bind_eq_some_iff.1 hr
            have HQ := hid hq
            clear hr hq
            have hr := hr2
            clear hr2
            obtain ⟨hr2, rfl⟩ := one1_some hr
            have HR := hid hr2
            clear hr hr2
            go_wp2_with fail
            refine (hG.e HB.out H3.out.p).mono ?_
            rintro e w4 ⟨rfl, hN⟩
            obtain ⟨ok4, v4, h4, m4⟩ := H3.out.call hN
            have H4 := hid h4
            clear hN h4 m4 H3
            obtain ⟨nd0, hnd, rfl⟩ := Option.map_eq_some_iff.1 (show Option.map Nd.at_ _ = some q from HQ.out)
            obtain ⟨g0, cap0, ev, lg, lk, q0, q5⟩ := H4.out.p.node hnd
            have c7 := H4.out.p.c7
            rw [ev] at c7
            have lk' : (x1 : Int) < (_ : Nat) := Int.ofNat_lt.2 lk
            have la := H4.out.p.lt
            clear hnd ev lk
            go_wp2_with fail
            clear q0 q5 c7 lk' la lg
            have L := hid (LR.two H4.out x1 b1)
            replace H4 := hid (H4.out.alloc (.cells #[.int .i64 x1, .int .i64 b1] 3))
            refine (put_row H4.out L.out HR.out).mono ?_
            rintro e wz ⟨rfl, hN⟩
            have HN := hid hN
            clear hN
            go_wp2_with fail
            go_ret
            exact ⟨ret_nat rfl, HN.out⟩
          · skip
            rw [if_f hb] at hr
            refine (has_miss H2.out.p (⟨#[61]⟩ : ByteArray) hb).mono ?_
            rintro e w3 ⟨rfl, hN⟩
            obtain ⟨ok3, v3, h3, m3⟩ := H2.out.call hN
            have H3 := hid h3
            clear hN h3 m3 H2
            clear hb
            obtain ⟨rfl, rfl, rfl⟩ := some3 hr
            clear hr
            go_wp2_with fail
            go_ret
            exact ⟨ret_nat rfl, H3.out.nx⟩
      · skip
        have hk : ¬ nn.kind = 3 ∧ ¬ nn.kind = 11 ∧ ¬ nn.kind = 12 := by simpa [and_assoc] using hb
        rw [hb, Bool.false_and] at hr
        clear hb
        obtain ⟨hk1, hk2, hk3⟩ := hk
        rw [if_f rfl] at hr
        obtain ⟨rfl, rfl, rfl⟩ := some3 hr
        clear hr
        have HN := hid H2.out.nx
        go_wp2_with fail
        go_ret
        exact ⟨ret_nat rfl, HN.out⟩
set_option maxHeartbeats 1600000 in
set_option maxRecDepth 100000 in
theorem unary_w (G : ∀ m, m < n → Good m) (hr : run n .unary S = some (k, ks, S')) (h : PI w a ok v S) : Calls Try.prog 98 #[ptr a] w (Ret w a ok k S') := by
  cases n with
  | zero => cases hr
  | succ n =>
  have hG := G n (Nat.lt_succ_self n)
  change unaryF (run n) S = _ at hr
  have H0 := hid (At.start h)
  clear G h
  unfold unaryF at hr
  rcases Bool.eq_false_or_eq_true (S.bad) with hb | hb
  · skip
    rw [if_pos hb] at hr
    obtain ⟨rfl, rfl, rfl⟩ := some3 hr
    clear hr
    have c9 := H0.out.p.c9
    have f9 := H0.out.p.f 9
    rw [hb] at c9
    clear hb
    unfold ptr
    go_enter Try.func98, Try.ntmps98
    go_wp2_with fail
    go_ret
    exact ⟨ret_nat rfl, H0.out.spoil⟩
  · skip
    rw [if_f hb] at hr
    have c9 := H0.out.p.c9
    rw [hb] at c9
    clear hb
    rcases Bool.eq_false_or_eq_true (S.inn.bad) with hb | hb
    · skip
      rw [if_pos hb] at hr
      obtain ⟨rfl, rfl, rfl⟩ := some3 hr
      clear hr
      have HE := hid (in_hit H0.out.p hb)
      clear hb
      unfold ptr
      go_enter Try.func98, Try.ntmps98
      go_wp2_with fail
      clear c9
      refine (HE.out).mono ?_
      rintro e w1 ⟨rfl, hN⟩
      obtain ⟨ok1, v1, h1, m1⟩ := H0.out.call hN
      have H1 := hid h1
      clear hN h1 m1 H0
      have c9 := H1.out.p.c9
      have f9 := H1.out.p.f 9
      go_wp2_with fail
      go_ret
      exact ⟨ret_nat rfl, H1.out.spoil⟩
    · skip
      rw [if_f hb] at hr
      have HE := hid (in_hit H0.out.p hb)
      have HR0 := hid hr
      clear hb hr
      unfold ptr
      go_enter Try.func98, Try.ntmps98
      go_wp2_with fail
      clear c9
      refine (HE.out).mono ?_
      rintro e w1 ⟨rfl, hN⟩
      obtain ⟨ok1, v1, h1, m1⟩ := H0.out.call hN
      have H1 := hid h1
      clear hN h1 m1 H0
      have c4 : w1.cell? ⟨a, 4, none⟩ = some (.int .i64 (S.t.at_ : Nat)) := H1.out.p.c4
      have c2 : w1.cell? ⟨a, 2, none⟩ = some (.string S.t.text) := H1.out.p.c2
      rcases Bool.eq_false_or_eq_true (S.inn.is (⟨#[33]⟩ : ByteArray)) with hb0 | hb0
      · skip
        have hr := HR0.out
        clear HR0
        rw [if_pos (by simp [hb0])] at hr
        obtain ⟨⟨x1, x2, x3⟩, hx, hr2⟩ := Option.bind_eq_some_iff.1 hr
        have HX := hid hx
        clear hr hx
        dsimp only at hr2
        have hr := hr2
        clear hr2
        obtain ⟨⟨y1, y3⟩, hy, hr2⟩ := Option.bind_eq_some_iff.1 hr
        have HY := hid hy
        clear hr hy
        have hr := hr2
        clear hr2
        dsimp only at hr
        obtain ⟨rfl, rfl, rfl⟩ := some3 hr
        clear hr
        have HI0 := hid (is_hit H1.out.p (⟨#[33]⟩ : ByteArray) hb0)
        clear hb0
        go_wp2_with fail
        refine (HI0.out).mono ?_
        rintro e w' ⟨rfl, rfl⟩
        go_wp2_with fail
        clear c4 c2
        refine (move_c H1.out.p).mono ?_
        rintro e w2 ⟨rfl, hN⟩
        obtain ⟨ok2, v2, h2, m2⟩ := H1.out.call hN
        have H2 := hid h2
        clear hN h2 m2 H1
        go_wp2_with fail
        refine (hG.unary HX.out H2.out.p).mono ?_
        rintro e w3 ⟨rfl, hN⟩
        obtain ⟨ok3, v3, h3, m3⟩ := H2.out.call hN
        have H3 := hid h3
        clear hN h3 m3 H2
        have L := hid (LR.one H3.out x1)
        replace H3 := hid (H3.out.alloc (.cells #[.int .i64 x1] 3))
        go_wp2_with fail
        refine (put_row H3.out L.out HY.out).mono ?_
        rintro e w4 ⟨rfl, hN⟩
        obtain ⟨ok4, v4, h4, _, s4⟩ := hN
        have H4 : Box (At w a ok w4 ok4 v4 y3) := hid ⟨h4, by assumption, s4⟩
        clear h4 s4
        go_wp2_with fail
        refine (out_c H4.out.p).mono ?_
        rintro e w5 ⟨rfl, hN⟩
        obtain ⟨ok5, v5, h5, m5⟩ := H4.out.call hN
        have H5 := hid h5
        clear hN h5 m5 H4
        go_wp2_with fail
        go_ret
        exact ⟨ret_nat rfl, H5.out.nx⟩
      · skip
        rcases Bool.eq_false_or_eq_true (S.inn.is (⟨#[45]⟩ : ByteArray)) with hb1 | hb1
        · skip
          have hr := HR0.out
          clear HR0
          rw [if_pos (by simp [hb0, hb1])] at hr
          obtain ⟨⟨x1, x2, x3⟩, hx, hr2⟩ := Option.bind_eq_some_iff.1 hr
          have HX := hid hx
          clear hr hx
          dsimp only at hr2
          have hr := hr2
          clear hr2
          obtain ⟨⟨y1, y3⟩, hy, hr2⟩ := Option.bind_eq_some_iff.1 hr
          have HY := hid hy
          clear hr hy
          have hr := hr2
          clear hr2
          dsimp only at hr
          obtain ⟨rfl, rfl, rfl⟩ := some3 hr
          clear hr
          have HI0 := hid (is_hit H1.out.p (⟨#[33]⟩ : ByteArray) hb0)
          have HI1 := hid (is_hit H1.out.p (⟨#[45]⟩ : ByteArray) hb1)
          clear hb0 hb1
          go_wp2_with fail
          refine (HI0.out).mono ?_
          rintro e w' ⟨rfl, rfl⟩
          go_wp2_with fail
          refine (HI1.out).mono ?_
          rintro e w' ⟨rfl, rfl⟩
          go_wp2_with fail
          clear c4 c2
          refine (move_c H1.out.p).mono ?_
          rintro e w2 ⟨rfl, hN⟩
          obtain ⟨ok2, v2, h2, m2⟩ := H1.out.call hN
          have H2 := hid h2
          clear hN h2 m2 H1
          go_wp2_with fail
          refine (hG.unary HX.out H2.out.p).mono ?_
          rintro e w3 ⟨rfl, hN⟩
          obtain ⟨ok3, v3, h3, m3⟩ := H2.out.call hN
          have H3 := hid h3
          clear hN h3 m3 H2
          have L := hid (LR.one H3.out x1)
          replace H3 := hid (H3.out.alloc (.cells #[.int .i64 x1] 3))
          go_wp2_with fail
          refine (put_row H3.out L.out HY.out).mono ?_
          rintro e w4 ⟨rfl, hN⟩
          obtain ⟨ok4, v4, h4, _, s4⟩ := hN
          have H4 : Box (At w a ok w4 ok4 v4 y3) := hid ⟨h4, by assumption, s4⟩
          clear h4 s4
          go_wp2_with fail
          refine (out_c H4.out.p).mono ?_
          rintro e w5 ⟨rfl, hN⟩
          obtain ⟨ok5, v5, h5, m5⟩ := H4.out.call hN
          have H5 := hid h5
          clear hN h5 m5 H4
          go_wp2_with fail
          go_ret
          exact ⟨ret_nat rfl, H5.out.nx⟩
        · skip
          rcases Bool.eq_false_or_eq_true (S.inn.is (⟨#[116, 121, 112, 101, 111, 102]⟩ : ByteArray)) with hb2 | hb2
          · skip
            have hr := HR0.out
            clear HR0
            rw [if_pos (by simp [hb0, hb1, hb2])] at hr
            obtain ⟨⟨x1, x2, x3⟩, hx, hr2⟩ := Option.bind_eq_some_iff.1 hr
            have HX := hid hx
            clear hr hx
            dsimp only at hr2
            have hr := hr2
            clear hr2
            obtain ⟨⟨y1, y3⟩, hy, hr2⟩ := Option.bind_eq_some_iff.1 hr
            have HY := hid hy
            clear hr hy
            have hr := hr2
            clear hr2
            dsimp only at hr
            obtain ⟨rfl, rfl, rfl⟩ := some3 hr
            clear hr
            have HI0 := hid (is_hit H1.out.p (⟨#[33]⟩ : ByteArray) hb0)
            have HI1 := hid (is_hit H1.out.p (⟨#[45]⟩ : ByteArray) hb1)
            have HI2 := hid (is_hit H1.out.p (⟨#[116, 121, 112, 101, 111, 102]⟩ : ByteArray) hb2)
            clear hb0 hb1 hb2
            go_wp2_with fail
            refine (HI0.out).mono ?_
            rintro e w' ⟨rfl, rfl⟩
            go_wp2_with fail
            refine (HI1.out).mono ?_
            rintro e w' ⟨rfl, rfl⟩
            go_wp2_with fail
            refine (HI2.out).mono ?_
            rintro e w' ⟨rfl, rfl⟩
            go_wp2_with fail
            clear c4 c2
            refine (move_c H1.out.p).mono ?_
            rintro e w2 ⟨rfl, hN⟩
            obtain ⟨ok2, v2, h2, m2⟩ := H1.out.call hN
            have H2 := hid h2
            clear hN h2 m2 H1
            go_wp2_with fail
            refine (hG.unary HX.out H2.out.p).mono ?_
            rintro e w3 ⟨rfl, hN⟩
            obtain ⟨ok3, v3, h3, m3⟩ := H2.out.call hN
            have H3 := hid h3
            clear hN h3 m3 H2
            have L := hid (LR.one H3.out x1)
            replace H3 := hid (H3.out.alloc (.cells #[.int .i64 x1] 3))
            go_wp2_with fail
            refine (put_row H3.out L.out HY.out).mono ?_
            rintro e w4 ⟨rfl, hN⟩
            obtain ⟨ok4, v4, h4, _, s4⟩ := hN
            have H4 : Box (At w a ok w4 ok4 v4 y3) := hid ⟨h4, by assumption, s4⟩
            clear h4 s4
            go_wp2_with fail
            refine (out_c H4.out.p).mono ?_
            rintro e w5 ⟨rfl, hN⟩
            obtain ⟨ok5, v5, h5, m5⟩ := H4.out.call hN
            have H5 := hid h5
            clear hN h5 m5 H4
            go_wp2_with fail
            go_ret
            exact ⟨ret_nat rfl, H5.out.nx⟩
          · skip
            have hr := HR0.out
            clear HR0
            rw [if_neg (by simp [hb0, hb1, hb2])] at hr
            obtain ⟨⟨x1, x2, x3⟩, hx, hr2⟩ := Option.bind_eq_some_iff.1 hr
            have HX := hid hx
            clear hr hx
            dsimp only at hr2
            have hr := hr2
            clear hr2
            obtain ⟨rfl, rfl, rfl⟩ := some3 hr
            clear hr
            have HI0 := hid (is_hit H1.out.p (⟨#[33]⟩ : ByteArray) hb0)
            have HI1 := hid (is_hit H1.out.p (⟨#[45]⟩ : ByteArray) hb1)
            have HI2 := hid (is_hit H1.out.p (⟨#[116, 121, 112, 101, 111, 102]⟩ : ByteArray) hb2)
            clear hb0 hb1 hb2
            go_wp2_with fail
            refine (HI0.out).mono ?_
            rintro e w' ⟨rfl, rfl⟩
            go_wp2_with fail
            refine (HI1.out).mono ?_
            rintro e w' ⟨rfl, rfl⟩
            go_wp2_with fail
            refine (HI2.out).mono ?_
            rintro e w' ⟨rfl, rfl⟩
            go_wp2_with fail
            clear c4 c2
            refine (hG.post HX.out H1.out.p).mono ?_
            rintro e w2 ⟨rfl, hN⟩
            obtain ⟨ok2, v2, h2, m2⟩ := H1.out.call hN
            have H2 := hid h2
            clear hN h2 m2 H1
            go_wp2_with fail
            refine (out_c H2.out.p).mono ?_
            rintro e w3 ⟨rfl, hN⟩
            obtain ⟨ok3, v3, h3, m3⟩ := H2.out.call hN
            have H3 := hid h3
            clear hN h3 m3 H2
            go_wp2_with fail
            go_ret
            exact ⟨ret_nat rfl, H3.out.nx⟩
end
end Go.Proofs.Ytibepkblgliooaa.Q
namespace Go.Proofs.Ytibepkblgliooaa.Q
open Go.RowKit
open Go.Proofs.YtibepkblgliooaaW.PrintWords
section
variable {n k : Nat} {ks : List Nat} {S S' : Ps} {w : World} {a : Nat} {ok : Nat → Prop} {v : Value}
set_option maxHeartbeats 1600000 in
set_option maxRecDepth 100000 in
theorem list_w {last : Bool} (G : ∀ m, m < n → Good m) (hr : run n (.list last []) S = some (k, ks, S')) (h : PI w a ok v S) : Calls Try.prog 15 #[ptr a, .bool last] w (RetL w a ok ks S') := by
  have HG := hid G
  have HR0 := hid hr
  have H0 := hid (At.start h)
  clear G hr h
  unfold ptr
  go_enter Try.func15, Try.ntmps15
  go_wp2_with fail
  go_loopg [5] n (fun g x wx => ∃ okx vx Sx acc, g ≤ n ∧ Box (run g (.list last acc) Sx = some (k, ks, S')) ∧ Box (At w a ok wx okx vx Sx) ∧ Box (LR w.heap.size wx a okx x acc))
  case atStart => exact ⟨ok, v, S, [], Nat.le_refl _, HR0, H0, hid (LR.nil _ _ _ _)⟩
  case round =>
    clear H0 HR0
    obtain ⟨okx, vx, Sx, acc, hgk, HR, H0, L⟩ := hrel
    have hr := HR.out
    clear HR
    cases gk with
    | zero => cases hr
    | succ gk =>
    have hG := HG.out gk hgk
    clear HG
    change listF (run gk) last acc Sx = _ at hr
    unfold listF at hr

    have c9 := H0.out.p.c9
    rcases Bool.eq_false_or_eq_true (Sx.bad) with hb | hb
    · skip
      rw [if_pos hb] at hr
      obtain ⟨rfl, rfl, rfl⟩ := some3 hr
      clear hr
      rw [hb] at c9
      clear hb
      go_wp2_with fail
      go_ret
      exact ⟨_, _, _, rfl, H0.out, L.out⟩
    · skip
      rw [if_f hb] at hr
      rw [hb] at c9
      clear hb
      cases last
      · skip
        rcases Bool.eq_false_or_eq_true (Sx.is (⟨#[125]⟩ : ByteArray)) with hb | hb
        · skip
          rw [if_pos (by simp [hb])] at hr
          obtain ⟨rfl, rfl, rfl⟩ := some3 hr
          clear hr
          have HI := hid (is_hit H0.out.p (⟨#[125]⟩ : ByteArray) hb)
          clear hb
          go_wp2_with fail
          clear c9
          refine (HI.out).mono ?_
          rintro e w' ⟨rfl, rfl⟩
          go_wp2_with fail
          go_ret
          exact ⟨_, _, _, rfl, H0.out, L.out⟩
        · skip
          rw [if_neg (by simp [hb])] at hr
          have HI := hid (is_hit H0.out.p (⟨#[125]⟩ : ByteArray) hb)
          clear hb
          obtain ⟨⟨x1, x2, x3⟩, hx, hr2⟩ := Option.bind_eq_some_iff.1 hr
          have HX := hid hx
          clear hr hx
          dsimp only at hr2
          have hr := hr2
          clear hr2
          split at hr
          rotate_left
          · cases hr
          rename_i hm
          have HRR := hid hr
          clear hr
          go_wp2_with fail
          clear c9
          refine (HI.out).mono ?_
          rintro e w' ⟨rfl, rfl⟩
          go_wp2_with fail
          refine (hG.stmt HX.out H0.out.p).mono ?_
          rintro e w1 ⟨rfl, hN⟩
          obtain ⟨ok1, v1, h1, m1⟩ := H0.out.call hN
          have H1 := hid h1
          replace L := hid (L.out.mv m1)
          clear hN h1 m1 H0
          go_wp2_with (at_builtin; refine LR.append_wp rfl _ _ rfl H1.out L.out (hm) rfl rfl ?_; intro val2 w2 h2 l2; have H2 := hid h2; have Ln := hid l2; clear h2 l2 H1 L)
          have L := Ln
          clear Ln
          clear hG
          go_wp2_with fail
          go_roundg gk
          case measure => omega
          case rel => exact ⟨_, _, _, _, by omega, HRR, H2, L⟩
      · skip
        have c1 := H0.out.p.c1
        rcases Bool.eq_false_or_eq_true (decide (Sx.t.kind = 0)) with hb | hb
        · skip
          have hk : Sx.t.kind = 0 := by simpa using hb
          rw [if_pos (by simp [hb])] at hr
          obtain ⟨rfl, rfl, rfl⟩ := some3 hr
          clear hr
          rw [hk] at c1
          clear hb hk
          go_wp2_with fail
          go_ret
          exact ⟨_, _, _, rfl, H0.out, L.out⟩
        · skip
          have hk : ¬ Sx.t.kind = 0 := by simpa using hb
          rw [if_neg (by simp [hb])] at hr
          clear hb
          obtain ⟨⟨x1, x2, x3⟩, hx, hr2⟩ := Option.bind_eq_some_iff.1 hr
          have HX := hid hx
          clear hr hx
          dsimp only at hr2
          have hr := hr2
          clear hr2
          split at hr
          rotate_left
          · cases hr
          rename_i hm
          have HRR := hid hr
          clear hr
          go_wp2_with fail
          clear c9 c1
          refine (hG.stmt HX.out H0.out.p).mono ?_
          rintro e w1 ⟨rfl, hN⟩
          obtain ⟨ok1, v1, h1, m1⟩ := H0.out.call hN
          have H1 := hid h1
          replace L := hid (L.out.mv m1)
          clear hN h1 m1 H0
          go_wp2_with (at_builtin; refine LR.append_wp rfl _ _ rfl H1.out L.out (hm) rfl rfl ?_; intro val2 w2 h2 l2; have H2 := hid h2; have Ln := hid l2; clear h2 l2 H1 L)
          have L := Ln
          clear Ln
          clear hG
          go_wp2_with fail
          go_roundg gk
          case measure => omega
          case rel => exact ⟨_, _, _, _, by omega, HRR, H2, L⟩
set_option maxHeartbeats 1600000 in
set_option maxRecDepth 100000 in
theorem commas_w {last : ByteArray} (G : ∀ m, m < n → Good m) (hr : run n (.commas last) S = some (k, ks, S')) (h : PI w a ok v S) : Calls Try.prog 101 #[ptr a, .string last] w (RetL w a ok ks S') := by
  cases n with
  | zero => cases hr
  | succ n =>
  have hG := G n (Nat.lt_succ_self n)
  change commasF (run n) last S = _ at hr
  have H0 := hid (At.start h)
  have HG := hid G
  clear G h
  unfold commasF at hr
  have HR0 := hid hr
  clear hr
  unfold ptr
  go_enter Try.func101, Try.ntmps101
  go_wp2_with fail
  have hr := HR0.out
  clear HR0
  rcases Bool.eq_false_or_eq_true (S.hasB last) with hb | hb
  · skip
    rw [if_pos hb] at hr
    refine (has_hit H0.out.p last hb).mono ?_
    rintro e w1 ⟨rfl, hN⟩
    obtain ⟨ok1, v1, h1, m1⟩ := H0.out.call hN
    have H1 := hid h1
    clear hN h1 m1 H0
    clear hb
    clear HG
    obtain ⟨rfl, rfl, rfl⟩ := some3 hr
    clear hr
    go_wp2_with fail
    go_ret
    exact ⟨_, ok1, v1, rfl, H1.out, LR.nil _ _ _ _⟩
  · skip
    rw [if_f hb] at hr
    refine (has_miss H0.out.p last hb).mono ?_
    rintro e w1 ⟨rfl, hN⟩
    obtain ⟨ok1, v1, h1, m1⟩ := H0.out.call hN
    have H1 := hid h1
    clear hN h1 m1 H0
    clear hb
    obtain ⟨⟨x1, x2, x3⟩, hx, hr2⟩ := Option.bind_eq_some_iff.1 hr
    have HX := hid hx
    clear hr hx
    dsimp only at hr2
    have hr := hr2
    clear hr2
    have HR1 := hid hr
    clear hr
    have L := hid (LR.nil w.heap.size w1 a ok1)
    go_wp2_with fail
    refine (hG.e HX.out H1.out.p).mono ?_
    rintro e w2 ⟨rfl, hN⟩
    obtain ⟨ok2, v2, h2, m2⟩ := H1.out.call hN
    have H2 := hid h2
    replace L := hid (L.out.mv m2)
    clear hN h2 m2 H1
    go_wp2_with (at_builtin; refine LR.append_wp rfl _ _ rfl H2.out L.out (by simp) rfl rfl ?_; intro val3 w3 h3 l3; have H3 := hid h3; have Ln := hid l3; clear h3 l3 H2 L)
    have L := Ln
    clear Ln
    dsimp only [List.nil_append] at L
    clear hG HX
    go_wp2_with fail
    have L : Box (LR w.heap.size w3 a ok2 val3 [x1]) := L
    go_loopg [5] n (fun g x wx => ∃ okx vx Sx acc, g ≤ n ∧ Box (run g (.commL last acc) Sx = some (k, ks, S')) ∧ Box (At w a ok wx okx vx Sx) ∧ Box (LR w.heap.size wx a okx x acc))
    case atStart => exact ⟨_, _, _, _, Nat.le_refl _, HR1, H3, L⟩
    case round =>
      clear H3 HR1 L
      obtain ⟨okx, vx, Sx, acc, hgk, HR, H0, L⟩ := hrel
      have hr := HR.out
      clear HR
      cases gk with
      | zero => cases hr
      | succ gk =>
      have hG := HG.out gk (by omega)
      clear HG
      change commLF (run gk) last acc Sx = _ at hr
      unfold commLF at hr
      go_wp2_with fail
      rcases Bool.eq_false_or_eq_true ((Sx).hasB (⟨#[44]⟩ : ByteArray)) with hb | hb
      · skip
        rw [if_pos hb] at hr
        refine (has_hit H0.out.p (⟨#[44]⟩ : ByteArray) hb).mono ?_
        rintro e w1 ⟨rfl, hN⟩
        obtain ⟨ok1, v1, h1, m1⟩ := H0.out.call hN
        have H1 := hid h1
        replace L := hid (L.out.mv m1)
        clear hN h1 m1 H0
        clear hb
        obtain ⟨⟨x1, x2, x3⟩, hx, hr2⟩ := Option.bind_eq_some_iff.1 hr
        have HX := hid hx
        clear hr hx
        dsimp only at hr2
        have hr := hr2
        clear hr2
        split at hr
        rotate_left
        · cases hr
        rename_i hm
        have HRR := hid hr
        clear hr
        go_wp2_with fail
        refine (hG.e HX.out H1.out.p).mono ?_
        rintro e w2 ⟨rfl, hN⟩
        obtain ⟨ok2, v2, h2, m2⟩ := H1.out.call hN
        have H2 := hid h2
        replace L := hid (L.out.mv m2)
        clear hN h2 m2 H1
        go_wp2_with (at_builtin; refine LR.append_wp rfl _ _ rfl H2.out L.out (hm) rfl rfl ?_; intro val3 w3 h3 l3; have H3 := hid h3; have Ln := hid l3; clear h3 l3 H2 L)
        have L := Ln
        clear Ln
        clear hG
        go_wp2_with fail
        go_roundg gk
        case measure => omega
        case rel => exact ⟨_, _, _, _, by omega, HRR, H3, L⟩
      · skip
        rw [if_f hb] at hr
        refine (has_miss H0.out.p (⟨#[44]⟩ : ByteArray) hb).mono ?_
        rintro e w1 ⟨rfl, hN⟩
        obtain ⟨ok1, v1, h1, m1⟩ := H0.out.call hN
        have H1 := hid h1
        replace L := hid (L.out.mv m1)
        clear hN h1 m1 H0
        clear hb
        obtain ⟨rfl, rfl, rfl⟩ := some3 hr
        clear hr
        go_wp2_with fail
        refine (must_c H1.out.p _).mono ?_
        rintro e w2 ⟨rfl, hN⟩
        obtain ⟨ok2, v2, h2, m2⟩ := H1.out.call hN
        have H2 := hid h2
        replace L := hid (L.out.mv m2)
        clear hN h2 m2 H1
        go_wp2_with fail
        go_ret
        exact ⟨_, _, _, rfl, H2.out, L.out⟩
end
end Go.Proofs.Ytibepkblgliooaa.Q
