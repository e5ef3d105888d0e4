/- What a proof further on needs (part l). -/
import Derived.Test.YtibepkblgliooaaKf
set_option linter.unusedVariables false
namespace Go.Proofs.Ytibepkblgliooaa.Q
open Go.RowKit
open Go.Proofs.YtibepkblgliooaaW.PrintWords
section
variable {n k : Nat} {ks : List Nat} {S S' : Ps} {w : World} {a : Nat} {ok : Nat → Prop} {v : Value}
set_option maxHeartbeats 6400000 in
set_option maxRecDepth 100000 in
theorem one_w (G : ∀ m, m < n → Good m) (hr : run n .one S = some (k, ks, S')) (h : PI w a ok v S) : Calls Try.prog 51 #[ptr a] w (Ret w a ok k S') := by
  cases n with
  | zero => cases hr
  | succ n =>
  have hG := G n (Nat.lt_succ_self n)
  change oneF (run n) S = _ at hr
  have H0 := hid (At.start h)
  clear G h
  unfold oneF at hr
  have c4 := H0.out.p.c4
  have HR := hid hr
  clear hr
  unfold ptr
  go_enter Try.func51, Try.ntmps51
  go_wp2_with fail
  clear c4
  rcases Bool.eq_false_or_eq_true (S.is (⟨#[123]⟩ : ByteArray)) with hb | hb
  · skip
    have hr := HR.out
    clear HR
    rw [if_pos hb] at hr
    have HI := hid (is_hit H0.out.p (⟨#[123]⟩ : ByteArray) hb)
    clear hb
    refine HI.out.mono ?_
    rintro e w' ⟨rfl, rfl⟩
    clear HI
    have HX := hid hr
    clear hr
    go_wp2_with fail
    refine (hG.block HX.out H0.out.p).mono ?_
    rintro e w1 ⟨rfl, hN⟩
    obtain ⟨ok1, v1, h1, m1⟩ := H0.out.call hN
    have H1 := hid h1
    clear hN h1 m1 H0
    go_wp2_with fail
    go_ret
    exact ⟨ret_nat rfl, H1.out.nx⟩
  · skip
    have hr := HR.out
    clear HR
    rw [if_f hb] at hr
    have HI := hid (is_hit H0.out.p (⟨#[123]⟩ : ByteArray) hb)
    clear hb
    have HR := hid hr
    clear hr
    refine HI.out.mono ?_
    rintro e w' ⟨rfl, rfl⟩
    clear HI
    go_wp2_with fail
    rcases Bool.eq_false_or_eq_true (S.is (⟨#[102, 117, 110, 99, 116, 105, 111, 110]⟩ : ByteArray)) with hb | hb
    · skip
      have hr := HR.out
      clear HR
      rw [if_pos hb] at hr
      have HI := hid (is_hit H0.out.p (⟨#[102, 117, 110, 99, 116, 105, 111, 110]⟩ : ByteArray) hb)
      clear hb
      refine HI.out.mono ?_
      rintro e w' ⟨rfl, rfl⟩
      clear HI
      obtain ⟨⟨x1, x2, x3⟩, hx, hr2⟩ := Option.bind_eq_some_iff.1 hr
      have HX := hid hx
      clear hr hx
      dsimp only at hr2
      have hr := hr2
      clear hr2
      obtain ⟨hr2, rfl⟩ := one1_some hr
      have HRR := hid hr2
      clear hr hr2
      go_wp2_with fail
      refine (hG.fn HX.out H0.out.p).mono ?_
      rintro e w1 ⟨rfl, hN⟩
      obtain ⟨ok1, v1, h1, m1⟩ := H0.out.call hN
      have H1 := hid h1
      clear hN h1 m1 H0
      go_upto_region 6 with fail
      go_wp2_with fail
      have L := hid (LR.one H1.out x1)
      replace H1 := hid (H1.out.alloc (.cells #[.int .i64 x1] 3))
      refine (put_row H1.out L.out HRR.out).mono ?_
      rintro e wz ⟨rfl, hN⟩
      have HN := hid hN
      clear hN
      go_wp2_with fail
      go_ret
      exact ⟨ret_nat rfl, HN.out⟩
    · skip
      have hr := HR.out
      clear HR
      rw [if_f hb] at hr
      have HI := hid (is_hit H0.out.p (⟨#[102, 117, 110, 99, 116, 105, 111, 110]⟩ : ByteArray) hb)
      clear hb
      have HR := hid hr
      clear hr
      refine HI.out.mono ?_
      rintro e w' ⟨rfl, rfl⟩
      clear HI
      go_wp2_with fail
      rcases Bool.eq_false_or_eq_true (S.hasB (⟨#[105, 102]⟩ : ByteArray)) with hb | hb
      · skip
        have hr := HR.out
        clear HR
        rw [if_pos hb] at hr
        refine (has_hit H0.out.p (⟨#[105, 102]⟩ : ByteArray) hb).mono ?_
        rintro e w1 ⟨rfl, hN⟩
        obtain ⟨ok1, v1, h1, m1⟩ := H0.out.call hN
        have H1 := hid h1
        clear hN h1 m1 H0
        clear hb
        unfold ifF at hr
        obtain ⟨⟨x1, x2, x3⟩, hx, hr2⟩ := Option.bind_eq_some_iff.1 hr
        have HX := hid hx
        clear hr hx
        dsimp only at hr2
        have hr := hr2
        clear hr2
        obtain ⟨⟨y1, y2, y3⟩, hy, hr2⟩ := Option.bind_eq_some_iff.1 hr
        have HY := hid hy
        clear hr hy
        dsimp only at hr2
        have hr := hr2
        clear hr2
        have HR := hid hr
        clear hr
        go_wp2_with fail
        refine (must_c H1.out.p (⟨#[40]⟩ : ByteArray)).mono ?_
        rintro e w2 ⟨rfl, hN⟩
        obtain ⟨ok2, v2, h2, m2⟩ := H1.out.call hN
        have H2 := hid h2
        clear hN h2 m2 H1
        go_wp2_with fail
        refine (hG.e HX.out H2.out.p).mono ?_
        rintro e w3 ⟨rfl, hN⟩
        obtain ⟨ok3, v3, h3, m3⟩ := H2.out.call hN
        have H3 := hid h3
        clear hN h3 m3 H2
        have L := hid (LR.one H3.out x1)
        replace H3 := hid (H3.out.alloc (.cells #[.int .i64 x1] 3))
        go_wp2_with fail
        refine (must_c H3.out.p (⟨#[41]⟩ : ByteArray)).mono ?_
        rintro e w4 ⟨rfl, hN⟩
        obtain ⟨ok4, v4, h4, m4⟩ := H3.out.call hN
        have H4 := hid h4
        replace L := hid (L.out.mv m4)
        clear hN h4 m4 H3
        go_wp2_with fail
        refine (hG.inner HY.out H4.out.p).mono ?_
        rintro e w5 ⟨rfl, hN⟩
        obtain ⟨ok5, v5, h5, m5⟩ := H4.out.call hN
        have H5 := hid h5
        replace L := hid (L.out.mv m5)
        clear hN h5 m5 H4
        go_wp2_with (at_builtin; refine LR.append_wp rfl _ _ rfl H5.out L.out (by simp) rfl rfl ?_; intro val6 w6 h6 l6; obtain ⟨A6, c6, e6⟩ := l6.slice; obtain rfl : val6 = .slice A6 2 c6 := e6; have H6 := hid h6; have Ln := hid l6; clear h6 l6 H5 L)
        have L := Ln
        clear Ln
        go_wp2_with fail
        rcases Bool.eq_false_or_eq_true (y3.hasB (⟨#[101, 108, 115, 101]⟩ : ByteArray)) with hb | hb
        · skip
          have hr := HR.out
          clear HR
          rw [if_pos hb] at hr
          obtain ⟨⟨z1, z2, z3⟩, hz, hr2⟩ := Option.bind_eq_some_iff.1 hr
          have HZ := hid hz
          clear hr hz
          dsimp only at hr2
          have hr := hr2
          clear hr2
          obtain ⟨hr2, rfl⟩ := one1_some hr
          have HRR := hid hr2
          clear hr hr2
          refine (has_hit H6.out.p (⟨#[101, 108, 115, 101]⟩ : ByteArray) hb).mono ?_
          rintro e w7 ⟨rfl, hN⟩
          obtain ⟨ok7, v7, h7, m7⟩ := H6.out.call hN
          have H7 := hid h7
          replace L := hid (L.out.mv m7)
          clear hN h7 m7 H6
          clear hb
          go_wp2_with fail
          refine (hG.inner HZ.out H7.out.p).mono ?_
          rintro e w8 ⟨rfl, hN⟩
          obtain ⟨ok8, v8, h8, m8⟩ := H7.out.call hN
          have H8 := hid h8
          replace L := hid (L.out.mv m8)
          clear hN h8 m8 H7
          go_wp2_with (at_builtin; refine LR.append_wp rfl _ _ rfl H8.out L.out (by simp) rfl rfl ?_; intro val9 w9 h9 l9; obtain ⟨A9, c9, e9⟩ := l9.slice; obtain rfl : val9 = .slice A9 3 c9 := e9; have H9 := hid h9; have Ln := hid l9; clear h9 l9 H8 L)
          have L := Ln
          clear Ln
          go_wp2_with fail
          refine (put_row H9.out L.out HRR.out).mono ?_
          rintro e wz ⟨rfl, hN⟩
          have HN := hid hN
          clear hN
          go_wp2_with fail
          go_ret
          exact ⟨ret_nat rfl, HN.out⟩
        · skip
          have hr := HR.out
          clear HR
          rw [if_f hb] at hr
          obtain ⟨hr2, rfl⟩ := one1_some hr
          have HRR := hid hr2
          clear hr hr2
          refine (has_miss H6.out.p (⟨#[101, 108, 115, 101]⟩ : ByteArray) hb).mono ?_
          rintro e w7 ⟨rfl, hN⟩
          obtain ⟨ok7, v7, h7, m7⟩ := H6.out.call hN
          have H7 := hid h7
          replace L := hid (L.out.mv m7)
          clear hN h7 m7 H6
          clear hb
          go_wp2_with fail
          refine (put_row H7.out L.out HRR.out).mono ?_
          rintro e wz ⟨rfl, hN⟩
          have HN := hid hN
          clear hN
          go_wp2_with fail
          go_ret
          exact ⟨ret_nat rfl, HN.out⟩
      · skip
        have hr := HR.out
        clear HR
        rw [if_f hb] at hr
        have HR := hid hr
        clear hr
        refine (has_miss H0.out.p (⟨#[105, 102]⟩ : ByteArray) hb).mono ?_
        rintro e w1 ⟨rfl, hN⟩
        obtain ⟨ok1, v1, h1, m1⟩ := H0.out.call hN
        have H1 := hid h1
        clear hN h1 m1 H0
        clear hb
        go_wp2_with fail
        rcases Bool.eq_false_or_eq_true (S.hasB (⟨#[119, 104, 105, 108, 101]⟩ : ByteArray)) with hb | hb
        · skip
          have hr := HR.out
          clear HR
          rw [if_pos hb] at hr
          refine (has_hit H1.out.p (⟨#[119, 104, 105, 108, 101]⟩ : ByteArray) hb).mono ?_
          rintro e w2 ⟨rfl, hN⟩
          obtain ⟨ok2, v2, h2, m2⟩ := H1.out.call hN
          have H2 := hid h2
          clear hN h2 m2 H1
          clear hb
          unfold whileF at hr
          obtain ⟨⟨x1, x2, x3⟩, hx, hr2⟩ := Option.bind_eq_some_iff.1 hr
          have HX := hid hx
          clear hr hx
          dsimp only at hr2
          have hr := hr2
          clear hr2
          obtain ⟨⟨y1, y2, y3⟩, hy, hr2⟩ := Option.bind_eq_some_iff.1 hr
          have HY := hid hy
          clear hr hy
          dsimp only at hr2
          have hr := hr2
          clear hr2
          obtain ⟨hr2, rfl⟩ := one1_some hr
          have HRR := hid hr2
          clear hr hr2
          go_wp2_with fail
          refine (must_c H2.out.p (⟨#[40]⟩ : ByteArray)).mono ?_
          rintro e w3 ⟨rfl, hN⟩
          obtain ⟨ok3, v3, h3, m3⟩ := H2.out.call hN
          have H3 := hid h3
          clear hN h3 m3 H2
          go_wp2_with fail
          refine (hG.e HX.out H3.out.p).mono ?_
          rintro e w4 ⟨rfl, hN⟩
          obtain ⟨ok4, v4, h4, m4⟩ := H3.out.call hN
          have H4 := hid h4
          clear hN h4 m4 H3
          have L := hid (LR.one H4.out x1)
          replace H4 := hid (H4.out.alloc (.cells #[.int .i64 x1] 3))
          go_wp2_with fail
          refine (must_c H4.out.p (⟨#[41]⟩ : ByteArray)).mono ?_
          rintro e w5 ⟨rfl, hN⟩
          obtain ⟨ok5, v5, h5, m5⟩ := H4.out.call hN
          have H5 := hid h5
          replace L := hid (L.out.mv m5)
          clear hN h5 m5 H4
          go_wp2_with fail
          refine (hG.inner HY.out H5.out.p).mono ?_
          rintro e w6 ⟨rfl, hN⟩
          obtain ⟨ok6, v6, h6, m6⟩ := H5.out.call hN
          have H6 := hid h6
          replace L := hid (L.out.mv m6)
          clear hN h6 m6 H5
          go_wp2_with (at_builtin; refine LR.append_wp rfl _ _ rfl H6.out L.out (by simp) rfl rfl ?_; intro val7 w7 h7 l7; obtain ⟨A7, c7, e7⟩ := l7.slice; obtain rfl : val7 = .slice A7 2 c7 := e7; have H7 := hid h7; have Ln := hid l7; clear h7 l7 H6 L)
          have L := Ln
          clear Ln
          go_wp2_with fail
          refine (put_row H7.out L.out HRR.out).mono ?_
          rintro e wz ⟨rfl, hN⟩
          have HN := hid hN
          clear hN
          go_wp2_with fail
          go_ret
          exact ⟨ret_nat rfl, HN.out⟩
        · skip
          have hr := HR.out
          clear HR
          rw [if_f hb] at hr
          have HR := hid hr
          clear hr
          refine (has_miss H1.out.p (⟨#[119, 104, 105, 108, 101]⟩ : ByteArray) hb).mono ?_
          rintro e w2 ⟨rfl, hN⟩
          obtain ⟨ok2, v2, h2, m2⟩ := H1.out.call hN
          have H2 := hid h2
          clear hN h2 m2 H1
          clear hb
          go_wp2_with fail
          rcases Bool.eq_false_or_eq_true (S.hasB (⟨#[98, 114, 101, 97, 107]⟩ : ByteArray)) with hb | hb
          · skip
            have hr := HR.out
            clear HR
            rw [if_pos hb] at hr
            refine (has_hit H2.out.p (⟨#[98, 114, 101, 97, 107]⟩ : ByteArray) hb).mono ?_
            rintro e w3 ⟨rfl, hN⟩
            obtain ⟨ok3, v3, h3, m3⟩ := H2.out.call hN
            have H3 := hid h3
            clear hN h3 m3 H2
            clear hb
            obtain ⟨hr2, rfl⟩ := one1_some hr
            have HRR := hid hr2
            clear hr hr2
            go_wp2_with fail
            refine (end_c H3.out.p).mono ?_
            rintro e w4 ⟨rfl, hN⟩
            obtain ⟨ok4, v4, h4, m4⟩ := H3.out.call hN
            have H4 := hid h4
            clear hN h4 m4 H3
            go_wp2_with fail
            refine (put_nil H4.out HRR.out).mono ?_
            rintro e wz ⟨rfl, hN⟩
            have HN := hid hN
            clear hN
            go_wp2_with fail
            go_ret
            exact ⟨ret_nat rfl, HN.out⟩
          · skip
            have hr := HR.out
            clear HR
            rw [if_f hb] at hr
            have HR := hid hr
            clear hr
            refine (has_miss H2.out.p (⟨#[98, 114, 101, 97, 107]⟩ : ByteArray) hb).mono ?_
            rintro e w3 ⟨rfl, hN⟩
            obtain ⟨ok3, v3, h3, m3⟩ := H2.out.call hN
            have H3 := hid h3
            clear hN h3 m3 H2
            clear hb
            go_wp2_with fail
            rcases Bool.eq_false_or_eq_true (S.hasB (⟨#[99, 111, 110, 116, 105, 110, 117, 101]⟩ : ByteArray)) with hb | hb
            · skip
              have hr := HR.out
              clear HR
              rw [if_pos hb] at hr
              refine (has_hit H3.out.p (⟨#[99, 111, 110, 116, 105, 110, 117, 101]⟩ : ByteArray) hb).mono ?_
              rintro e w4 ⟨rfl, hN⟩
              obtain ⟨ok4, v4, h4, m4⟩ := H3.out.call hN
              have H4 := hid h4
              clear hN h4 m4 H3
              clear hb
              obtain ⟨hr2, rfl⟩ := one1_some hr
              have HRR := hid hr2
              clear hr hr2
              go_wp2_with fail
              refine (end_c H4.out.p).mono ?_
              rintro e w5 ⟨rfl, hN⟩
              obtain ⟨ok5, v5, h5, m5⟩ := H4.out.call hN
              have H5 := hid h5
              clear hN h5 m5 H4
              go_wp2_with fail
              refine (put_nil H5.out HRR.out).mono ?_
              rintro e wz ⟨rfl, hN⟩
              have HN := hid hN
              clear hN
              go_wp2_with fail
              go_ret
              exact ⟨ret_nat rfl, HN.out⟩
            · skip
              have hr := HR.out
              clear HR
              rw [if_f hb] at hr
              have HR := hid hr
              clear hr
              refine (has_miss H3.out.p (⟨#[99, 111, 110, 116, 105, 110, 117, 101]⟩ : ByteArray) hb).mono ?_
              rintro e w4 ⟨rfl, hN⟩
              obtain ⟨ok4, v4, h4, m4⟩ := H3.out.call hN
              have H4 := hid h4
              clear hN h4 m4 H3
              clear hb
              go_wp2_with fail
              rcases Bool.eq_false_or_eq_true (S.hasB (⟨#[114, 101, 116, 117, 114, 110]⟩ : ByteArray)) with hb | hb
              · skip
                have hr := HR.out
                clear HR
                rw [if_pos hb] at hr
                refine (has_hit H4.out.p (⟨#[114, 101, 116, 117, 114, 110]⟩ : ByteArray) hb).mono ?_
                rintro e w5 ⟨rfl, hN⟩
                obtain ⟨ok5, v5, h5, m5⟩ := H4.out.call hN
                have H5 := hid h5
                clear hN h5 m5 H4
                clear hb
                unfold returnF at hr
                have c1 := H5.out.p.c1
                have c2 := H5.out.p.c2
                have c3 := H5.out.p.c3
                have c4 := H5.out.p.c4
                have c5 := H5.out.p.c5
                rcases Bool.eq_false_or_eq_true (S.move.t.line) with hl | hl
                · skip
                  rw [if_neg (by simp [hl])] at hr
                  obtain ⟨hr2, rfl⟩ := one1_some hr
                  have HRR := hid hr2
                  clear hr hr2
                  go_wp2_with fail
                  clear c1 c2 c3 c4 c5
                  replace H5 := hid (H5.out.alloc (.cells #[.int .i64 S.move.t.kind, .string S.move.t.text, .int .i64 S.move.t.num, .int .i64 S.move.t.at_, .bool true] 55))
                  clear hl
                  refine (end_c H5.out.p).mono ?_
                  rintro e w6 ⟨rfl, hN⟩
                  obtain ⟨ok6, v6, h6, m6⟩ := H5.out.call hN
                  have H6 := hid h6
                  clear hN h6 m6 H5
                  go_wp2_with fail
                  refine (put_nil H6.out HRR.out).mono ?_
                  rintro e wz ⟨rfl, hN⟩
                  have HN := hid hN
                  clear hN
                  go_wp2_with fail
                  go_ret
                  exact ⟨ret_nat rfl, HN.out⟩
                · skip
                  rcases Bool.eq_false_or_eq_true (decide (S.move.t.kind = 0)) with hb | hb
                  · skip
                    have hk : S.move.t.kind = 0 := by simpa using hb
                    rw [if_neg (by simp [hb])] at hr
                    obtain ⟨hr2, rfl⟩ := one1_some hr
                    have HRR := hid hr2
                    clear hr hr2
                    go_wp2_with fail
                    clear c1 c2 c3 c4 c5
                    replace H5 := hid (H5.out.alloc (.cells #[.int .i64 0, .string S.move.t.text, .int .i64 S.move.t.num, .int .i64 S.move.t.at_, .bool false] 55))
                    clear hl hb hk
                    refine (end_c H5.out.p).mono ?_
                    rintro e w6 ⟨rfl, hN⟩
                    obtain ⟨ok6, v6, h6, m6⟩ := H5.out.call hN
                    have H6 := hid h6
                    clear hN h6 m6 H5
                    go_wp2_with fail
                    refine (put_nil H6.out HRR.out).mono ?_
                    rintro e wz ⟨rfl, hN⟩
                    have HN := hid hN
                    clear hN
                    go_wp2_with fail
                    go_ret
                    exact ⟨ret_nat rfl, HN.out⟩
                  · skip
                    have hk : ¬ S.move.t.kind = 0 := by simpa using hb
                    have hk1 : (S.move.t.kind != 0) = true := by simpa using hk
                    have HR := hid hr
                    clear hr
                    go_wp2_with fail
                    clear c1 c2 c3 c4 c5
                    replace H5 := hid (H5.out.alloc (.cells #[.int .i64 S.move.t.kind, .string S.move.t.text, .int .i64 S.move.t.num, .int .i64 S.move.t.at_, .bool false] 55))
                    clear hk hk1
                    rcases Bool.eq_false_or_eq_true (S.move.is (⟨#[59]⟩ : ByteArray)) with hs | hs
                    · skip
                      have hr := HR.out
                      clear HR
                      rw [if_neg (by simp [hs])] at hr
                      obtain ⟨hr2, rfl⟩ := one1_some hr
                      have HRR := hid hr2
                      clear hr hr2
                      have HI := hid (is_hit H5.out.p (⟨#[59]⟩ : ByteArray) hs)
                      clear hl hb hs
                      refine HI.out.mono ?_
                      rintro e w' ⟨rfl, rfl⟩
                      clear HI
                      go_wp2_with fail
                      refine (end_c H5.out.p).mono ?_
                      rintro e w6 ⟨rfl, hN⟩
                      obtain ⟨ok6, v6, h6, m6⟩ := H5.out.call hN
                      have H6 := hid h6
                      clear hN h6 m6 H5
                      go_wp2_with fail
                      refine (put_nil H6.out HRR.out).mono ?_
                      rintro e wz ⟨rfl, hN⟩
                      have HN := hid hN
                      clear hN
                      go_wp2_with fail
                      go_ret
                      exact ⟨ret_nat rfl, HN.out⟩
                    · skip
                      have HI := hid (is_hit H5.out.p (⟨#[59]⟩ : ByteArray) hs)
                      refine HI.out.mono ?_
                      rintro e w' ⟨rfl, rfl⟩
                      clear HI
                      have HH := hid (And.intro hl (And.intro hb hs))
                      clear hl hb hs
                      go_wp2_with fail
                      rcases Bool.eq_false_or_eq_true (S.move.is (⟨#[125]⟩ : ByteArray)) with hc | hc
                      · skip
                        have hr := HR.out
                        clear HR
                        rw [if_neg (by simp [hc])] at hr
                        obtain ⟨hr2, rfl⟩ := one1_some hr
                        have HRR := hid hr2
                        clear hr hr2
                        have HI := hid (is_hit H5.out.p (⟨#[125]⟩ : ByteArray) hc)
                        clear hc
                        refine HI.out.mono ?_
                        rintro e w' ⟨rfl, rfl⟩
                        clear HI HH
                        go_wp2_with fail
                        refine (end_c H5.out.p).mono ?_
                        rintro e w6 ⟨rfl, hN⟩
                        obtain ⟨ok6, v6, h6, m6⟩ := H5.out.call hN
                        have H6 := hid h6
                        clear hN h6 m6 H5
                        go_wp2_with fail
                        refine (put_nil H6.out HRR.out).mono ?_
                        rintro e wz ⟨rfl, hN⟩
                        have HN := hid hN
                        clear hN
                        go_wp2_with fail
                        go_ret
                        exact ⟨ret_nat rfl, HN.out⟩
                      · skip
                        have hr := HR.out
                        clear HR
                        rw [if_pos (by simp [HH.out.1, HH.out.2.1, HH.out.2.2, hc])] at hr
                        obtain ⟨⟨x1, x2, x3⟩, hx, hr2⟩ := Option.bind_eq_some_iff.1 hr
                        have HX := hid hx
                        clear hr hx
                        dsimp only at hr2
                        have hr := hr2
                        clear hr2
                        obtain ⟨hr2, rfl⟩ := one1_some hr
                        have HRR := hid hr2
                        clear hr hr2
                        have HI := hid (is_hit H5.out.p (⟨#[125]⟩ : ByteArray) hc)
                        clear hc HH
                        refine HI.out.mono ?_
                        rintro e w' ⟨rfl, rfl⟩
                        clear HI
                        have L := hid (LR.nil w.heap.size (w5.alloc (.cells #[.int .i64 S.move.t.kind, .string S.move.t.text, .int .i64 S.move.t.num, .int .i64 S.move.t.at_, .bool false] 55)) a ok5)
                        go_wp2_with fail
                        refine (hG.e HX.out H5.out.p).mono ?_
                        rintro e w6 ⟨rfl, hN⟩
                        obtain ⟨ok6, v6, h6, m6⟩ := H5.out.call hN
                        have H6 := hid h6
                        replace L := hid (L.out.mv m6)
                        clear hN h6 m6 H5
                        go_wp2_with (at_builtin; refine LR.append_wp rfl _ _ rfl H6.out L.out (by simp) rfl rfl ?_; intro val7 w7 h7 l7; obtain ⟨A7, c7, e7⟩ := l7.slice; obtain rfl : val7 = .slice A7 1 c7 := e7; have H7 := hid h7; have Ln := hid l7; clear h7 l7 H6 L)
                        have L := Ln
                        clear Ln
                        go_wp2_with fail
                        refine (end_c H7.out.p).mono ?_
                        rintro e w8 ⟨rfl, hN⟩
                        obtain ⟨ok8, v8, h8, m8⟩ := H7.out.call hN
                        have H8 := hid h8
                        replace L := hid (L.out.mv m8)
                        clear hN h8 m8 H7
                        go_wp2_with fail
                        refine (put_row H8.out L.out HRR.out).mono ?_
                        rintro e wz ⟨rfl, hN⟩
                        have HN := hid hN
                        clear hN
                        go_wp2_with fail
                        go_ret
                        exact ⟨ret_nat rfl, HN.out⟩
              · skip
                have hr := HR.out
                clear HR
                rw [if_f hb] at hr
                have HR := hid hr
                clear hr
                refine (has_miss H4.out.p (⟨#[114, 101, 116, 117, 114, 110]⟩ : ByteArray) hb).mono ?_
                rintro e w5 ⟨rfl, hN⟩
                obtain ⟨ok5, v5, h5, m5⟩ := H4.out.call hN
                have H5 := hid h5
                clear hN h5 m5 H4
                clear hb
                go_wp2_with fail
                rcases Bool.eq_false_or_eq_true (S.hasB (⟨#[116, 104, 114, 111, 119]⟩ : ByteArray)) with hb | hb
                · skip
                  have hr := HR.out
                  clear HR
                  rw [if_pos hb] at hr
                  refine (has_hit H5.out.p (⟨#[116, 104, 114, 111, 119]⟩ : ByteArray) hb).mono ?_
                  rintro e w6 ⟨rfl, hN⟩
                  obtain ⟨ok6, v6, h6, m6⟩ := H5.out.call hN
                  have H6 := hid h6
                  clear hN h6 m6 H5
                  clear hb
                  unfold throwF at hr
                  have c5 := H6.out.p.c5
                  rcases Bool.eq_false_or_eq_true (S.move.t.line) with hl | hl
                  · skip
                    rw [if_pos hl] at hr
                    rw [hl] at c5
                    clear hl
                    obtain ⟨⟨x1, x2, x3⟩, hx, hr2⟩ := Option.bind_eq_some_iff.1 hr
                    have HX := hid hx
                    clear hr hx
                    dsimp only at hr2
                    have hr := hr2
                    clear hr2
                    obtain ⟨hr2, rfl⟩ := one1_some hr
                    have HRR := hid hr2
                    clear hr hr2
                    have c9 := H6.out.p.c9
                    have f9 := H6.out.p.f 9
                    go_wp2_with fail
                    clear c5 c9 f9
                    replace H6 := hid H6.out.spoilA
                    refine (hG.e HX.out H6.out.p).mono ?_
                    rintro e w7 ⟨rfl, hN⟩
                    obtain ⟨ok7, v7, h7, m7⟩ := H6.out.call hN
                    have H7 := hid h7
                    clear hN h7 m7 H6
                    have L := hid (LR.one H7.out x1)
                    replace H7 := hid (H7.out.alloc (.cells #[.int .i64 x1] 3))
                    go_wp2_with fail
                    refine (end_c H7.out.p).mono ?_
                    rintro e w8 ⟨rfl, hN⟩
                    obtain ⟨ok8, v8, h8, m8⟩ := H7.out.call hN
                    have H8 := hid h8
                    replace L := hid (L.out.mv m8)
                    clear hN h8 m8 H7
                    go_wp2_with fail
                    refine (put_row H8.out L.out HRR.out).mono ?_
                    rintro e wz ⟨rfl, hN⟩
                    have HN := hid hN
                    clear hN
                    go_wp2_with fail
                    go_ret
                    exact ⟨ret_nat rfl, HN.out⟩
                  · skip
                    rw [if_f hl] at hr
                    rw [hl] at c5
                    clear hl
                    obtain ⟨⟨x1, x2, x3⟩, hx, hr2⟩ := Option.bind_eq_some_iff.1 hr
                    have HX := hid hx
                    clear hr hx
                    dsimp only at hr2
                    have hr := hr2
                    clear hr2
                    obtain ⟨hr2, rfl⟩ := one1_some hr
                    have HRR := hid hr2
                    clear hr hr2
                    go_wp2_with fail
                    clear c5
                    refine (hG.e HX.out H6.out.p).mono ?_
                    rintro e w7 ⟨rfl, hN⟩
                    obtain ⟨ok7, v7, h7, m7⟩ := H6.out.call hN
                    have H7 := hid h7
                    clear hN h7 m7 H6
                    have L := hid (LR.one H7.out x1)
                    replace H7 := hid (H7.out.alloc (.cells #[.int .i64 x1] 3))
                    go_wp2_with fail
                    refine (end_c H7.out.p).mono ?_
                    rintro e w8 ⟨rfl, hN⟩
                    obtain ⟨ok8, v8, h8, m8⟩ := H7.out.call hN
                    have H8 := hid h8
                    replace L := hid (L.out.mv m8)
                    clear hN h8 m8 H7
                    go_wp2_with fail
                    refine (put_row H8.out L.out HRR.out).mono ?_
                    rintro e wz ⟨rfl, hN⟩
                    have HN := hid hN
                    clear hN
                    go_wp2_with fail
                    go_ret
                    exact ⟨ret_nat rfl, HN.out⟩
                · skip
                  have hr := HR.out
                  clear HR
                  rw [if_f hb] at hr
                  have HR := hid hr
                  clear hr
                  refine (has_miss H5.out.p (⟨#[116, 104, 114, 111, 119]⟩ : ByteArray) hb).mono ?_
                  rintro e w6 ⟨rfl, hN⟩
                  obtain ⟨ok6, v6, h6, m6⟩ := H5.out.call hN
                  have H6 := hid h6
                  clear hN h6 m6 H5
                  clear hb
                  go_wp2_with fail
                  rcases Bool.eq_false_or_eq_true (S.hasB (⟨#[116, 114, 121]⟩ : ByteArray)) with hb | hb
                  · skip
                    have hr := HR.out
                    clear HR
                    rw [if_pos hb] at hr
                    refine (has_hit H6.out.p (⟨#[116, 114, 121]⟩ : ByteArray) hb).mono ?_
                    rintro e w7 ⟨rfl, hN⟩
                    obtain ⟨ok7, v7, h7, m7⟩ := H6.out.call hN
                    have H7 := hid h7
                    clear hN h7 m7 H6
                    clear hb
                    unfold tryF at hr
                    obtain ⟨⟨x1, x2, x3⟩, hx, hr2⟩ := Option.bind_eq_some_iff.1 hr
                    have HX := hid hx
                    clear hr hx
                    dsimp only at hr2
                    have hr := hr2
                    clear hr2
                    obtain ⟨⟨y1, y2, y3⟩, hy, hr2⟩ := Option.bind_eq_some_iff.1 hr
                    have HY := hid hy
                    clear hr hy
                    dsimp only at hr2
                    have hr := hr2
                    clear hr2
                    obtain ⟨hr2, rfl⟩ := one1_some hr
                    have HRR := hid hr2
                    clear hr hr2
                    go_wp2_with fail
                    refine (hG.block HX.out H7.out.p).mono ?_
                    rintro e w8 ⟨rfl, hN⟩
                    obtain ⟨ok8, v8, h8, m8⟩ := H7.out.call hN
                    have H8 := hid h8
                    clear hN h8 m8 H7
                    have L := hid (LR.one H8.out x1)
                    replace H8 := hid (H8.out.alloc (.cells #[.int .i64 x1] 3))
                    go_wp2_with fail
                    refine (must_c H8.out.p (⟨#[99, 97, 116, 99, 104]⟩ : ByteArray)).mono ?_
                    rintro e w9 ⟨rfl, hN⟩
                    obtain ⟨ok9, v9, h9, m9⟩ := H8.out.call hN
                    have H9 := hid h9
                    replace L := hid (L.out.mv m9)
                    clear hN h9 m9 H8
                    go_wp2_with fail
                    refine (must_c H9.out.p (⟨#[40]⟩ : ByteArray)).mono ?_
                    rintro e w10 ⟨rfl, hN⟩
                    obtain ⟨ok10, v10, h10, m10⟩ := H9.out.call hN
                    have H10 := hid h10
                    replace L := hid (L.out.mv m10)
                    clear hN h10 m10 H9
                    go_wp2_with fail
                    refine (name_c H10.out.p).mono ?_
                    rintro e w11 ⟨rfl, hN⟩
                    obtain ⟨ok11, v11, h11, m11⟩ := H10.out.call hN
                    have H11 := hid h11
                    replace L := hid (L.out.mv m11)
                    clear hN h11 m11 H10
                    go_wp2_with fail
                    refine (must_c H11.out.p (⟨#[41]⟩ : ByteArray)).mono ?_
                    rintro e w12 ⟨rfl, hN⟩
                    obtain ⟨ok12, v12, h12, m12⟩ := H11.out.call hN
                    have H12 := hid h12
                    replace L := hid (L.out.mv m12)
                    clear hN h12 m12 H11
                    go_wp2_with fail
                    refine (hG.block HY.out H12.out.p).mono ?_
                    rintro e w13 ⟨rfl, hN⟩
                    obtain ⟨ok13, v13, h13, m13⟩ := H12.out.call hN
                    have H13 := hid h13
                    replace L := hid (L.out.mv m13)
                    clear hN h13 m13 H12
                    go_wp2_with (at_builtin; refine LR.append_wp rfl _ _ rfl H13.out L.out (by simp) rfl rfl ?_; intro val14 w14 h14 l14; obtain ⟨A14, c14, e14⟩ := l14.slice; obtain rfl : val14 = .slice A14 2 c14 := e14; have H14 := hid h14; have Ln := hid l14; clear h14 l14 H13 L)
                    have L := Ln
                    clear Ln
                    go_wp2_with fail
                    refine (put_row H14.out L.out HRR.out).mono ?_
                    rintro e wz ⟨rfl, hN⟩
                    have HN := hid hN
                    clear hN
                    go_wp2_with fail
                    go_ret
                    exact ⟨ret_nat rfl, HN.out⟩
                  · skip
                    have hr := HR.out
                    clear HR
                    rw [if_f hb] at hr
                    have HR := hid hr
                    clear hr
                    refine (has_miss H6.out.p (⟨#[116, 114, 121]⟩ : ByteArray) hb).mono ?_
                    rintro e w7 ⟨rfl, hN⟩
                    obtain ⟨ok7, v7, h7, m7⟩ := H6.out.call hN
                    have H7 := hid h7
                    clear hN h7 m7 H6
                    clear hb
                    go_wp2_with fail
                    rcases Bool.eq_false_or_eq_true (S.is (⟨#[108, 101, 116]⟩ : ByteArray)) with hl | hl
                    · skip
                      have hr := HR.out
                      clear HR
                      rw [if_pos (by simp [hl])] at hr
                      have HI := hid (is_hit H7.out.p (⟨#[108, 101, 116]⟩ : ByteArray) hl)
                      clear hl
                      refine HI.out.mono ?_
                      rintro e w' ⟨rfl, rfl⟩
                      clear HI
                      rcases Bool.eq_false_or_eq_true (S.is (⟨#[99, 111, 110, 115, 116]⟩ : ByteArray)) with hc | hc
                      · skip
                        unfold letF at hr
                        rw [if_pos hc] at hr
                        obtain ⟨⟨x1, x2, x3⟩, hx, hr2⟩ := Option.bind_eq_some_iff.1 hr
                        have HX := hid hx
                        clear hr hx
                        dsimp only at hr2
                        have hr := hr2
                        clear hr2
                        obtain ⟨hr2, rfl⟩ := one1_some hr
                        have HRR := hid hr2
                        clear hr hr2
                        go_wp2_with fail
                        have HI := hid (is_hit H7.out.p (⟨#[99, 111, 110, 115, 116]⟩ : ByteArray) hc)
                        clear hc
                        refine HI.out.mono ?_
                        rintro e w' ⟨rfl, rfl⟩
                        clear HI
                        go_wp2_with fail
                        refine (move_c H7.out.p).mono ?_
                        rintro e w8 ⟨rfl, hN⟩
                        obtain ⟨ok8, v8, h8, m8⟩ := H7.out.call hN
                        have H8 := hid h8
                        clear hN h8 m8 H7
                        go_wp2_with fail
                        refine (name_c H8.out.p).mono ?_
                        rintro e w9 ⟨rfl, hN⟩
                        obtain ⟨ok9, v9, h9, m9⟩ := H8.out.call hN
                        have H9 := hid h9
                        clear hN h9 m9 H8
                        go_wp2_with fail
                        refine (must_c H9.out.p (⟨#[61]⟩ : ByteArray)).mono ?_
                        rintro e w10 ⟨rfl, hN⟩
                        obtain ⟨ok10, v10, h10, m10⟩ := H9.out.call hN
                        have H10 := hid h10
                        clear hN h10 m10 H9
                        go_wp2_with fail
                        refine (hG.e HX.out H10.out.p).mono ?_
                        rintro e w11 ⟨rfl, hN⟩
                        obtain ⟨ok11, v11, h11, m11⟩ := H10.out.call hN
                        have H11 := hid h11
                        clear hN h11 m11 H10
                        have L := hid (LR.one H11.out x1)
                        replace H11 := hid (H11.out.alloc (.cells #[.int .i64 x1] 3))
                        go_wp2_with fail
                        refine (end_c H11.out.p).mono ?_
                        rintro e w12 ⟨rfl, hN⟩
                        obtain ⟨ok12, v12, h12, m12⟩ := H11.out.call hN
                        have H12 := hid h12
                        replace L := hid (L.out.mv m12)
                        clear hN h12 m12 H11
                        go_wp2_with fail
                        refine (put_row H12.out L.out HRR.out).mono ?_
                        rintro e wz ⟨rfl, hN⟩
                        have HN := hid hN
                        clear hN
                        go_wp2_with fail
                        go_ret
                        exact ⟨ret_nat rfl, HN.out⟩
                      · skip
                        unfold letF at hr
                        rw [if_f hc] at hr
                        obtain ⟨⟨x1, x2, x3⟩, hx, hr2⟩ := Option.bind_eq_some_iff.1 hr
                        have HX := hid hx
                        clear hr hx
                        dsimp only at hr2
                        have hr := hr2
                        clear hr2
                        obtain ⟨hr2, rfl⟩ := one1_some hr
                        have HRR := hid hr2
                        clear hr hr2
                        go_wp2_with fail
                        have HI := hid (is_hit H7.out.p (⟨#[99, 111, 110, 115, 116]⟩ : ByteArray) hc)
                        clear hc
                        refine HI.out.mono ?_
                        rintro e w' ⟨rfl, rfl⟩
                        clear HI
                        go_wp2_with fail
                        refine (move_c H7.out.p).mono ?_
                        rintro e w8 ⟨rfl, hN⟩
                        obtain ⟨ok8, v8, h8, m8⟩ := H7.out.call hN
                        have H8 := hid h8
                        clear hN h8 m8 H7
                        go_wp2_with fail
                        refine (name_c H8.out.p).mono ?_
                        rintro e w9 ⟨rfl, hN⟩
                        obtain ⟨ok9, v9, h9, m9⟩ := H8.out.call hN
                        have H9 := hid h9
                        clear hN h9 m9 H8
                        go_wp2_with fail
                        refine (must_c H9.out.p (⟨#[61]⟩ : ByteArray)).mono ?_
                        rintro e w10 ⟨rfl, hN⟩
                        obtain ⟨ok10, v10, h10, m10⟩ := H9.out.call hN
                        have H10 := hid h10
                        clear hN h10 m10 H9
                        go_wp2_with fail
                        refine (hG.e HX.out H10.out.p).mono ?_
                        rintro e w11 ⟨rfl, hN⟩
                        obtain ⟨ok11, v11, h11, m11⟩ := H10.out.call hN
                        have H11 := hid h11
                        clear hN h11 m11 H10
                        have L := hid (LR.one H11.out x1)
                        replace H11 := hid (H11.out.alloc (.cells #[.int .i64 x1] 3))
                        go_wp2_with fail
                        refine (end_c H11.out.p).mono ?_
                        rintro e w12 ⟨rfl, hN⟩
                        obtain ⟨ok12, v12, h12, m12⟩ := H11.out.call hN
                        have H12 := hid h12
                        replace L := hid (L.out.mv m12)
                        clear hN h12 m12 H11
                        go_wp2_with fail
                        refine (put_row H12.out L.out HRR.out).mono ?_
                        rintro e wz ⟨rfl, hN⟩
                        have HN := hid hN
                        clear hN
                        go_wp2_with fail
                        go_ret
                        exact ⟨ret_nat rfl, HN.out⟩
                    · skip
                      have HI := hid (is_hit H7.out.p (⟨#[108, 101, 116]⟩ : ByteArray) hl)
                      have HL := hid hl
                      clear hl
                      refine HI.out.mono ?_
                      rintro e w' ⟨rfl, rfl⟩
                      clear HI
                      go_wp2_with fail
                      rcases Bool.eq_false_or_eq_true (S.is (⟨#[99, 111, 110, 115, 116]⟩ : ByteArray)) with hc | hc
                      · skip
                        have hr := HR.out
                        clear HR
                        rw [if_pos (by simp [hc])] at hr
                        clear HL
                        have HI := hid (is_hit H7.out.p (⟨#[99, 111, 110, 115, 116]⟩ : ByteArray) hc)
                        refine HI.out.mono ?_
                        rintro e w' ⟨rfl, rfl⟩
                        clear HI
                        unfold letF at hr
                        rw [if_pos hc] at hr
                        obtain ⟨⟨x1, x2, x3⟩, hx, hr2⟩ := Option.bind_eq_some_iff.1 hr
                        have HX := hid hx
                        clear hr hx
                        dsimp only at hr2
                        have hr := hr2
                        clear hr2
                        obtain ⟨hr2, rfl⟩ := one1_some hr
                        have HRR := hid hr2
                        clear hr hr2
                        go_wp2_with fail
                        have HI := hid (is_hit H7.out.p (⟨#[99, 111, 110, 115, 116]⟩ : ByteArray) hc)
                        clear hc
                        refine HI.out.mono ?_
                        rintro e w' ⟨rfl, rfl⟩
                        clear HI
                        go_wp2_with fail
                        refine (move_c H7.out.p).mono ?_
                        rintro e w8 ⟨rfl, hN⟩
                        obtain ⟨ok8, v8, h8, m8⟩ := H7.out.call hN
                        have H8 := hid h8
                        clear hN h8 m8 H7
                        go_wp2_with fail
                        refine (name_c H8.out.p).mono ?_
                        rintro e w9 ⟨rfl, hN⟩
                        obtain ⟨ok9, v9, h9, m9⟩ := H8.out.call hN
                        have H9 := hid h9
                        clear hN h9 m9 H8
                        go_wp2_with fail
                        refine (must_c H9.out.p (⟨#[61]⟩ : ByteArray)).mono ?_
                        rintro e w10 ⟨rfl, hN⟩
                        obtain ⟨ok10, v10, h10, m10⟩ := H9.out.call hN
                        have H10 := hid h10
                        clear hN h10 m10 H9
                        go_wp2_with fail
                        refine (hG.e HX.out H10.out.p).mono ?_
                        rintro e w11 ⟨rfl, hN⟩
                        obtain ⟨ok11, v11, h11, m11⟩ := H10.out.call hN
                        have H11 := hid h11
                        clear hN h11 m11 H10
                        have L := hid (LR.one H11.out x1)
                        replace H11 := hid (H11.out.alloc (.cells #[.int .i64 x1] 3))
                        go_wp2_with fail
                        refine (end_c H11.out.p).mono ?_
                        rintro e w12 ⟨rfl, hN⟩
                        obtain ⟨ok12, v12, h12, m12⟩ := H11.out.call hN
                        have H12 := hid h12
                        replace L := hid (L.out.mv m12)
                        clear hN h12 m12 H11
                        go_wp2_with fail
                        refine (put_row H12.out L.out HRR.out).mono ?_
                        rintro e wz ⟨rfl, hN⟩
                        have HN := hid hN
                        clear hN
                        go_wp2_with fail
                        go_ret
                        exact ⟨ret_nat rfl, HN.out⟩
                      · skip
                        have hr := HR.out
                        clear HR
                        rw [if_neg (by simp [HL.out, hc])] at hr
                        clear HL
                        have HI := hid (is_hit H7.out.p (⟨#[99, 111, 110, 115, 116]⟩ : ByteArray) hc)
                        clear hc
                        refine HI.out.mono ?_
                        rintro e w' ⟨rfl, rfl⟩
                        clear HI
                        unfold exprF at hr
                        obtain ⟨⟨x1, x2, x3⟩, hx, hr2⟩ := Option.bind_eq_some_iff.1 hr
                        have HX := hid hx
                        clear hr hx
                        dsimp only at hr2
                        have hr := hr2
                        clear hr2
                        go_wp2_with fail
                        refine (hG.e HX.out H7.out.p).mono ?_
                        rintro e w8 ⟨rfl, hN⟩
                        obtain ⟨ok8, v8, h8, m8⟩ := H7.out.call hN
                        have H8 := hid h8
                        clear hN h8 m8 H7
                        go_wp2_with fail
                        refine (end_c H8.out.p).mono ?_
                        rintro e w9 ⟨rfl, hN⟩
                        obtain ⟨ok9, v9, h9, m9⟩ := H8.out.call hN
                        have H9 := hid h9
                        clear hN h9 m9 H8
                        have c9 := H9.out.p.c9
                        rcases Bool.eq_false_or_eq_true (x3.endS.bad) with hb | hb
                        · skip
                          rw [if_pos hb] at hr
                          obtain ⟨rfl, rfl, rfl⟩ := some3 hr
                          clear hr
                          rw [hb] at c9
                          clear hb
                          go_wp2_with fail
                          go_ret
                          exact ⟨ret_nat rfl, H9.out.nx⟩
                        · skip
                          rw [if_f hb] at hr
                          rw [hb] at c9
                          clear hb
                          obtain ⟨q, hq, hr2⟩ := Option.bind_eq_some_iff.1 hr
                          have HQ := hid hq
                          clear hr hq
                          have hr := hr2
                          clear hr2
                          obtain ⟨hr2, rfl⟩ := one1_some hr
                          have HRR := hid hr2
                          clear hr hr2
                          obtain ⟨nd0, hnd, rfl⟩ := Option.map_eq_some_iff.1 (show Option.map Nd.at_ _ = some q from HQ.out)
                          obtain ⟨g0, cap0, ev, lg, lk, q0, q5⟩ := H9.out.p.node hnd
                          have c7 := H9.out.p.c7
                          rw [ev] at c7
                          have lk' : (x1 : Int) < (_ : Nat) := Int.ofNat_lt.2 lk
                          have la := H9.out.p.lt
                          clear hnd ev lk
                          go_wp2_with fail
                          clear c9 q0 q5 c7 lk' la lg
                          have L := hid (LR.one H9.out x1)
                          replace H9 := hid (H9.out.alloc (.cells #[.int .i64 x1] 3))
                          refine (put_row H9.out L.out HRR.out).mono ?_
                          rintro e wz ⟨rfl, hN⟩
                          have HN := hid hN
                          clear hN
                          go_wp2_with fail
                          go_ret
                          exact ⟨ret_nat rfl, HN.out⟩
end
end Go.Proofs.Ytibepkblgliooaa.Q
