/- What a proof further on needs (part n). -/
import Derived.Test.YtibepkblgliooaaKg
set_option linter.unusedVariables false
namespace Go.Proofs.Ytibepkblgliooaa.Q
open Go.RowKit
open Go.Proofs.YtibepkblgliooaaW.PrintWords
theorem run_kind (q : Int) (x1 x2 x3 x4 x5 : Value) (W : World) : (Instr.field 37 (.agg #[.int .i64 q, x1, x2, x3, x4, x5]) 0).run Try.prog W = .ok (.int .i64 q) W := by
  simp [Instr.field, run_underlying Try.underlying37, asAgg, go_sem]
theorem simple_hit (w : World) (s : ByteArray) {u : Value} (hu : simpleV s = u) : Calls Try.prog 102 #[.string s] w fun e w' => e = .returned u ∧ Below w.heap.size w w' := by
  have := simple_c w s
  rwa [hu] at this
section
variable {n k : Nat} {ks : List Nat} {S S' : Ps} {w : World} {a : Nat} {ok : Nat → Prop} {v : Value}
set_option maxHeartbeats 6400000 in
set_option maxRecDepth 100000 in
theorem first_w (G : ∀ m, m < n → Good m) (hr : run n .first S = some (k, ks, S')) (h : PI w a ok v S) : Calls Try.prog 100 #[ptr a] w (Ret w a ok k S') := by
  cases n with
  | zero => cases hr
  | succ n =>
  have hG := G n (Nat.lt_succ_self n)
  change firstF (run n) S = _ at hr
  have H0 := hid (At.start h)
  clear G h
  unfold firstF at hr
  have c1 := H0.out.p.c1
  have c2 := H0.out.p.c2
  have c3 := H0.out.p.c3
  have c4 := H0.out.p.c4
  have c5 := H0.out.p.c5
  by_cases hk : S.t.kind = 1
  · skip
    rw [if_pos hk] at hr
    obtain ⟨hr2, rfl⟩ := one1_some hr
    have HRR := hid hr2
    clear hr hr2
    rw [hk] at c1
    clear hk
    unfold ptr
    go_enter Try.func100, Try.ntmps100
    go_wp2_with fail
    have B := hid (NB.new (H0.out.alloc (.cells #[.int .i64 1, .string S.t.text, .int .i64 S.t.num, .int .i64 (S.t.at_ : Nat), .bool S.t.line] 55)) #[.int .i64 1, .int .i64 S.t.num, .string ⟨#[]⟩, .slice none 0 0, .slice none 0 0, .int .i64 (S.t.at_ : Nat)])
    rw [show (w.alloc (.cells #[.int .i64 1, .string S.t.text, .int .i64 S.t.num, .int .i64 (S.t.at_ : Nat), .bool S.t.line] 55)).heap.size = w.heap.size + 1 by simp] at B
    replace H0 := hid ((H0.out.alloc (.cells #[.int .i64 1, .string S.t.text, .int .i64 S.t.num, .int .i64 (S.t.at_ : Nat), .bool S.t.line] 55)).alloc (.cells #[.int .i64 1, .int .i64 S.t.num, .string ⟨#[]⟩, .slice none 0 0, .slice none 0 0, .int .i64 (S.t.at_ : Nat)] 37))
    clear c1 c2 c3 c4 c5
    refine (move_c H0.out.p).mono ?_
    rintro e w1 ⟨rfl, hN⟩
    obtain ⟨ok1, v1, h1, m1⟩ := H0.out.call hN
    have H1 := hid h1
    replace B := hid (B.out.mv m1)
    clear hN h1 m1 H0
    have n0 := B.out.c (i := 0) (u := .int .i64 1) rfl
    have n1 := B.out.c (i := 1) (u := .int .i64 S.t.num) rfl
    have n2 := B.out.c (i := 2) (u := .string ⟨#[]⟩) rfl
    have n3 := B.out.c (i := 3) (u := .slice none 0 0) rfl
    have n4 := B.out.c (i := 4) (u := .slice none 0 0) rfl
    have n5 := B.out.c (i := 5) (u := .int .i64 (S.t.at_ : Nat)) rfl
    go_wp2_with fail
    clear n0 n1 n2 n3 n4 n5
    refine (put_nil H1.out HRR.out).mono ?_
    rintro e wz ⟨rfl, hN⟩
    have HN := hid hN
    clear hN
    go_wp2_with fail
    go_ret
    exact ⟨ret_nat rfl, HN.out⟩
  · skip
    rw [if_neg hk] at hr
    have hk1 := hk
    clear hk
    by_cases hk : S.t.kind = 2
    · skip
      rw [if_pos hk] at hr
      obtain ⟨hr2, rfl⟩ := one1_some hr
      have HRR := hid hr2
      clear hr hr2
      rw [hk] at c1
      clear hk
      unfold ptr
      go_enter Try.func100, Try.ntmps100
      go_wp2_with fail
      have B := hid (NB.new (H0.out.alloc (.cells #[.int .i64 2, .string S.t.text, .int .i64 S.t.num, .int .i64 (S.t.at_ : Nat), .bool S.t.line] 55)) #[.int .i64 2, .int .i64 0, .string S.t.text, .slice none 0 0, .slice none 0 0, .int .i64 (S.t.at_ : Nat)])
      rw [show (w.alloc (.cells #[.int .i64 2, .string S.t.text, .int .i64 S.t.num, .int .i64 (S.t.at_ : Nat), .bool S.t.line] 55)).heap.size = w.heap.size + 1 by simp] at B
      replace H0 := hid ((H0.out.alloc (.cells #[.int .i64 2, .string S.t.text, .int .i64 S.t.num, .int .i64 (S.t.at_ : Nat), .bool S.t.line] 55)).alloc (.cells #[.int .i64 2, .int .i64 0, .string S.t.text, .slice none 0 0, .slice none 0 0, .int .i64 (S.t.at_ : Nat)] 37))
      clear c1 c2 c3 c4 c5
      refine (move_c H0.out.p).mono ?_
      rintro e w1 ⟨rfl, hN⟩
      obtain ⟨ok1, v1, h1, m1⟩ := H0.out.call hN
      have H1 := hid h1
      replace B := hid (B.out.mv m1)
      clear hN h1 m1 H0
      have n0 := B.out.c (i := 0) (u := .int .i64 2) rfl
      have n1 := B.out.c (i := 1) (u := .int .i64 0) rfl
      have n2 := B.out.c (i := 2) (u := .string S.t.text) rfl
      have n3 := B.out.c (i := 3) (u := .slice none 0 0) rfl
      have n4 := B.out.c (i := 4) (u := .slice none 0 0) rfl
      have n5 := B.out.c (i := 5) (u := .int .i64 (S.t.at_ : Nat)) rfl
      go_wp2_with fail
      clear n0 n1 n2 n3 n4 n5
      refine (put_nil H1.out HRR.out).mono ?_
      rintro e wz ⟨rfl, hN⟩
      have HN := hid hN
      clear hN
      go_wp2_with fail
      go_ret
      exact ⟨ret_nat rfl, HN.out⟩
    · skip
      rw [if_neg hk] at hr
      have hk2 := hk
      clear hk
      by_cases hk : S.t.kind = 3
      · skip
        rw [if_pos hk] at hr
        obtain ⟨hr2, rfl⟩ := one1_some hr
        have HRR := hid hr2
        clear hr hr2
        rw [hk] at c1
        clear hk
        unfold ptr
        go_enter Try.func100, Try.ntmps100
        go_wp2_with fail
        have B := hid (NB.new (H0.out.alloc (.cells #[.int .i64 3, .string S.t.text, .int .i64 S.t.num, .int .i64 (S.t.at_ : Nat), .bool S.t.line] 55)) #[.int .i64 3, .int .i64 0, .string S.t.text, .slice none 0 0, .slice none 0 0, .int .i64 (S.t.at_ : Nat)])
        rw [show (w.alloc (.cells #[.int .i64 3, .string S.t.text, .int .i64 S.t.num, .int .i64 (S.t.at_ : Nat), .bool S.t.line] 55)).heap.size = w.heap.size + 1 by simp] at B
        replace H0 := hid ((H0.out.alloc (.cells #[.int .i64 3, .string S.t.text, .int .i64 S.t.num, .int .i64 (S.t.at_ : Nat), .bool S.t.line] 55)).alloc (.cells #[.int .i64 3, .int .i64 0, .string S.t.text, .slice none 0 0, .slice none 0 0, .int .i64 (S.t.at_ : Nat)] 37))
        clear c1 c2 c3 c4 c5
        refine (move_c H0.out.p).mono ?_
        rintro e w1 ⟨rfl, hN⟩
        obtain ⟨ok1, v1, h1, m1⟩ := H0.out.call hN
        have H1 := hid h1
        replace B := hid (B.out.mv m1)
        clear hN h1 m1 H0
        have n0 := B.out.c (i := 0) (u := .int .i64 3) rfl
        have n1 := B.out.c (i := 1) (u := .int .i64 0) rfl
        have n2 := B.out.c (i := 2) (u := .string S.t.text) rfl
        have n3 := B.out.c (i := 3) (u := .slice none 0 0) rfl
        have n4 := B.out.c (i := 4) (u := .slice none 0 0) rfl
        have n5 := B.out.c (i := 5) (u := .int .i64 (S.t.at_ : Nat)) rfl
        go_wp2_with fail
        clear n0 n1 n2 n3 n4 n5
        refine (put_nil H1.out HRR.out).mono ?_
        rintro e wz ⟨rfl, hN⟩
        have HN := hid hN
        clear hN
        go_wp2_with fail
        go_ret
        exact ⟨ret_nat rfl, HN.out⟩
      · skip
        rw [if_neg hk] at hr
        have hk3 := hk
        clear hk
        by_cases hk : S.t.kind = 4
        · skip
          have hkf := run_kind
          rw [if_pos hk] at hr
          rw [hk] at c1
          clear hk hk1 hk2 hk3
          cases hq : simpleB S.t.text with
          | none =>
            rw [hq] at hr
            dsimp only at hr
            have HV := hid (show simpleV S.t.text = .agg #[.int .i64 0, .int .i64 0, .string ⟨#[]⟩, .slice none 0 0, .slice none 0 0, .int .i64 0] by simp [simpleV, hq])
            clear hq
            unfold ptr
            go_enter Try.func100, Try.ntmps100
            go_wp2_with fail
            have B := hid (NB.new (H0.out.alloc (.cells #[.int .i64 4, .string S.t.text, .int .i64 S.t.num, .int .i64 (S.t.at_ : Nat), .bool S.t.line] 55)) #[.int .i64 0, .int .i64 0, .string ⟨#[]⟩, .slice none 0 0, .slice none 0 0, .int .i64 (S.t.at_ : Nat)])
            rw [show (w.alloc (.cells #[.int .i64 4, .string S.t.text, .int .i64 S.t.num, .int .i64 (S.t.at_ : Nat), .bool S.t.line] 55)).heap.size = w.heap.size + 1 by simp] at B
            replace H0 := hid ((H0.out.alloc (.cells #[.int .i64 4, .string S.t.text, .int .i64 S.t.num, .int .i64 (S.t.at_ : Nat), .bool S.t.line] 55)).alloc (.cells #[.int .i64 0, .int .i64 0, .string ⟨#[]⟩, .slice none 0 0, .slice none 0 0, .int .i64 (S.t.at_ : Nat)] 37))
            clear c1 c2 c3 c4 c5
            refine (simple_hit _ _ HV.out).mono ?_
            rintro e w1 ⟨rfl, hb1⟩
            replace B := hid (B.out.below hb1)
            have H1 := hid (H0.out.below hb1)
            clear hb1 HV H0
            go_wp2_with fail
            have HR := hid hr
            clear hr
            rcases Bool.eq_false_or_eq_true (S.is (⟨#[102, 117, 110, 99, 116, 105, 111, 110]⟩ : ByteArray)) with hf | hf
            · skip
              have hr := HR.out
              clear HR
              rw [if_pos hf] at hr
              have HX := hid hr
              clear hr
              have HI := hid (is_hit H1.out.p (⟨#[102, 117, 110, 99, 116, 105, 111, 110]⟩ : ByteArray) hf)
              clear hf
              refine HI.out.mono ?_
              rintro e w' ⟨rfl, rfl⟩
              clear HI
              go_wp2_with fail
              refine (hG.fn HX.out H1.out.p).mono ?_
              rintro e w2 ⟨rfl, hN⟩
              obtain ⟨ok2, v2, h2, m2⟩ := H1.out.call hN
              have H2 := hid h2
              replace B := hid (B.out.mv m2)
              clear hN h2 m2 H1
              go_wp2_with fail
              go_ret
              exact ⟨ret_nat rfl, H2.out.nx⟩
            · skip
              have hr := HR.out
              clear HR
              rw [if_f hf] at hr
              have HI := hid (is_hit H1.out.p (⟨#[102, 117, 110, 99, 116, 105, 111, 110]⟩ : ByteArray) hf)
              clear hf
              have HR := hid hr
              clear hr
              refine HI.out.mono ?_
              rintro e w' ⟨rfl, rfl⟩
              clear HI
              go_wp2_with fail
              have hr := HR.out
              clear HR
              rcases Bool.eq_false_or_eq_true ((S).hasB (⟨#[40]⟩ : ByteArray)) with hb | hb
              · skip
                rw [if_pos hb] at hr
                refine (has_hit H1.out.p (⟨#[40]⟩ : ByteArray) hb).mono ?_
                rintro e w2 ⟨rfl, hN⟩
                obtain ⟨ok2, v2, h2, m2⟩ := H1.out.call hN
                have H2 := hid h2
                replace B := hid (B.out.mv m2)
                clear hN h2 m2 H1
                clear hb
                obtain ⟨⟨x1, x2, x3⟩, hx, hr2⟩ := Option.bind_eq_some_iff.1 hr
                have HX := hid hx
                clear hr hx
                dsimp only at hr2
                have hr := hr2
                clear hr2
                obtain ⟨rfl, rfl, rfl⟩ := some3 hr
                clear hr
                go_wp2_with fail
                refine (hG.e HX.out H2.out.p).mono ?_
                rintro e w3 ⟨rfl, hN⟩
                obtain ⟨ok3, v3, h3, m3⟩ := H2.out.call hN
                have H3 := hid h3
                replace B := hid (B.out.mv m3)
                clear hN h3 m3 H2
                go_wp2_with fail
                refine (must_c H3.out.p (⟨#[41]⟩ : ByteArray)).mono ?_
                rintro e w4 ⟨rfl, hN⟩
                obtain ⟨ok4, v4, h4, m4⟩ := H3.out.call hN
                have H4 := hid h4
                replace B := hid (B.out.mv m4)
                clear hN h4 m4 H3
                go_wp2_with fail
                go_ret
                exact ⟨ret_nat rfl, H4.out.nx⟩
              · skip
                rw [if_f hb] at hr
                refine (has_miss H1.out.p (⟨#[40]⟩ : ByteArray) hb).mono ?_
                rintro e w2 ⟨rfl, hN⟩
                obtain ⟨ok2, v2, h2, m2⟩ := H1.out.call hN
                have H2 := hid h2
                replace B := hid (B.out.mv m2)
                clear hN h2 m2 H1
                clear hb
                have HR := hid hr
                clear hr
                go_wp2_with fail
                have hr := HR.out
                clear HR
                rcases Bool.eq_false_or_eq_true ((S).hasB (⟨#[91]⟩ : ByteArray)) with hb | hb
                · skip
                  rw [if_pos hb] at hr
                  refine (has_hit H2.out.p (⟨#[91]⟩ : ByteArray) hb).mono ?_
                  rintro e w3 ⟨rfl, hN⟩
                  obtain ⟨ok3, v3, h3, m3⟩ := H2.out.call hN
                  have H3 := hid h3
                  replace B := hid (B.out.mv m3)
                  clear hN h3 m3 H2
                  clear hb
                  obtain ⟨⟨x1, x2, x3⟩, hx, hr2⟩ := Option.bind_eq_some_iff.1 hr
                  have HX := hid hx
                  clear hr hx
                  dsimp only at hr2
                  have hr := hr2
                  clear hr2
                  obtain ⟨hr2, rfl⟩ := one1_some hr
                  have HRR := hid hr2
                  clear hr hr2
                  have n0 := B.out.c (i := 0) (u := .int .i64 0) rfl
                  have fz0 := B.out.f 0
                  go_wp2_with fail
                  clear n0 fz0
                  replace H3 := hid (H3.out.setB B.out 0 (.int .i64 9))
                  replace B := hid (B.out.set (cs' := #[.int .i64 9, .int .i64 0, .string ⟨#[]⟩, .slice none 0 0, .slice none 0 0, .int .i64 (S.t.at_ : Nat)]) 0 (.int .i64 9) rfl)
                  have hbl := B.out.lt
                  refine (hG.commas HX.out H3.out.p).mono ?_
                  rintro e w4 ⟨val, ok4, v4, rfl, g1, l1⟩
                  obtain ⟨A1, c1', rfl⟩ := l1.slice
                  obtain ⟨h1, m1⟩ := H3.out.trans g1
                  replace B := hid (B.out.mv m1)
                  have H4 := hid h1
                  have L := hid l1
                  have HBL := hid hbl
                  have HLE := hid H3.out.kp.size
                  clear g1 l1 h1 m1 hbl H3
                  have n0 := B.out.c (i := 0) (u := .int .i64 9) rfl
                  have n1 := B.out.c (i := 1) (u := .int .i64 0) rfl
                  have n2 := B.out.c (i := 2) (u := .string ⟨#[]⟩) rfl
                  have n3 := B.out.c (i := 3) (u := .slice none 0 0) rfl
                  have n4 := B.out.c (i := 4) (u := .slice none 0 0) rfl
                  have n5 := B.out.c (i := 5) (u := .int .i64 (S.t.at_ : Nat)) rfl
                  have fz4 := B.out.f 4
                  go_wp2_with fail
                  clear n0 n1 n2 n3 n4 n5 fz4
                  replace L := hid (L.out.setB HBL.out 4 (.slice A1 x2.length c1'))
                  replace H4 := hid (H4.out.setB B.out 4 (.slice A1 x2.length c1'))
                  refine (put_row H4.out (L.out.le HLE.out) HRR.out).mono ?_
                  rintro e wz ⟨rfl, hN⟩
                  have HN := hid hN
                  clear hN
                  go_wp2_with fail
                  go_ret
                  exact ⟨ret_nat rfl, HN.out⟩
                · skip
                  rw [if_f hb] at hr
                  refine (has_miss H2.out.p (⟨#[91]⟩ : ByteArray) hb).mono ?_
                  rintro e w3 ⟨rfl, hN⟩
                  obtain ⟨ok3, v3, h3, m3⟩ := H2.out.call hN
                  have H3 := hid h3
                  replace B := hid (B.out.mv m3)
                  clear hN h3 m3 H2
                  clear hb
                  have HR := hid hr
                  clear hr
                  go_wp2_with fail
                  have hr := HR.out
                  clear HR
                  rcases Bool.eq_false_or_eq_true ((S).hasB (⟨#[123]⟩ : ByteArray)) with hb | hb
                  · skip
                    rw [if_pos hb] at hr
                    refine (has_hit H3.out.p (⟨#[123]⟩ : ByteArray) hb).mono ?_
                    rintro e w4 ⟨rfl, hN⟩
                    obtain ⟨ok4, v4, h4, m4⟩ := H3.out.call hN
                    have H4 := hid h4
                    replace B := hid (B.out.mv m4)
                    clear hN h4 m4 H3
                    clear hb
                    have HX := hid hr
                    clear hr
                    have n0 := B.out.c (i := 0) (u := .int .i64 0) rfl
                    have n1 := B.out.c (i := 1) (u := .int .i64 0) rfl
                    have n2 := B.out.c (i := 2) (u := .string ⟨#[]⟩) rfl
                    have n3 := B.out.c (i := 3) (u := .slice none 0 0) rfl
                    have n4 := B.out.c (i := 4) (u := .slice none 0 0) rfl
                    have n5 := B.out.c (i := 5) (u := .int .i64 (S.t.at_ : Nat)) rfl
                    go_wp2_with fail
                    clear n0 n1 n2 n3 n4 n5
                    refine (hG.obj HX.out H4.out.p).mono ?_
                    rintro e w5 ⟨rfl, hN⟩
                    obtain ⟨ok5, v5, h5, m5⟩ := H4.out.call hN
                    have H5 := hid h5
                    replace B := hid (B.out.mv m5)
                    clear hN h5 m5 H4
                    go_wp2_with fail
                    go_ret
                    exact ⟨ret_nat rfl, H5.out.nx⟩
                  · skip
                    rw [if_f hb] at hr
                    refine (has_miss H3.out.p (⟨#[123]⟩ : ByteArray) hb).mono ?_
                    rintro e w4 ⟨rfl, hN⟩
                    obtain ⟨ok4, v4, h4, m4⟩ := H3.out.call hN
                    have H4 := hid h4
                    replace B := hid (B.out.mv m4)
                    clear hN h4 m4 H3
                    clear hb
                    obtain ⟨rfl, rfl, rfl⟩ := some3 hr
                    clear hr
                    clear hG
                    have c9 := H4.out.p.c9
                    have f9 := H4.out.p.f 9
                    go_wp2_with fail
                    go_ret
                    exact ⟨ret_nat rfl, H4.out.spoil⟩
          | some q =>
            have hq0 := simpleB_pos hq
            obtain ⟨q1, q2⟩ := q
            rw [hq] at hr
            dsimp only at hr hq0
            have HV := hid (show simpleV S.t.text = .agg #[.int .i64 q1, .int .i64 q2, .string ⟨#[]⟩, .slice none 0 0, .slice none 0 0, .int .i64 0] by simp [simpleV, hq])
            clear hq hG
            obtain ⟨hr2, rfl⟩ := one1_some hr
            have HRR := hid hr2
            clear hr hr2
            unfold ptr
            go_enter Try.func100, Try.ntmps100
            go_wp2_with fail
            have B := hid (NB.new (H0.out.alloc (.cells #[.int .i64 4, .string S.t.text, .int .i64 S.t.num, .int .i64 (S.t.at_ : Nat), .bool S.t.line] 55)) #[.int .i64 0, .int .i64 0, .string ⟨#[]⟩, .slice none 0 0, .slice none 0 0, .int .i64 (S.t.at_ : Nat)])
            rw [show (w.alloc (.cells #[.int .i64 4, .string S.t.text, .int .i64 S.t.num, .int .i64 (S.t.at_ : Nat), .bool S.t.line] 55)).heap.size = w.heap.size + 1 by simp] at B
            replace H0 := hid ((H0.out.alloc (.cells #[.int .i64 4, .string S.t.text, .int .i64 S.t.num, .int .i64 (S.t.at_ : Nat), .bool S.t.line] 55)).alloc (.cells #[.int .i64 0, .int .i64 0, .string ⟨#[]⟩, .slice none 0 0, .slice none 0 0, .int .i64 (S.t.at_ : Nat)] 37))
            clear c1 c2 c3 c4 c5
            have t1 : ((w.alloc (.cells #[.int .i64 4, .string S.t.text, .int .i64 S.t.num, .int .i64 (S.t.at_ : Nat), .bool S.t.line] 55)).alloc (.cells #[.int .i64 0, .int .i64 0, .string ⟨#[]⟩, .slice none 0 0, .slice none 0 0, .int .i64 (S.t.at_ : Nat)] 37)).cell? ⟨w.heap.size, 1, none⟩ = some (.string S.t.text) := by simp [go_sem]
            have t3 : ((w.alloc (.cells #[.int .i64 4, .string S.t.text, .int .i64 S.t.num, .int .i64 (S.t.at_ : Nat), .bool S.t.line] 55)).alloc (.cells #[.int .i64 0, .int .i64 0, .string ⟨#[]⟩, .slice none 0 0, .slice none 0 0, .int .i64 (S.t.at_ : Nat)] 37)).cell? ⟨w.heap.size, 3, none⟩ = some (.int .i64 (S.t.at_ : Nat)) := by simp [go_sem]
            refine (simple_hit _ _ HV.out).mono ?_
            rintro e w1 ⟨rfl, hb1⟩
            replace B := hid (B.out.below hb1)
            have H1 := hid (H0.out.below hb1)
            replace t1 := keepc hb1 t1
            replace t3 := keepc hb1 t3
            clear hb1 H0
            go_wp2_with fail
            refine (simple_hit _ _ HV.out).mono ?_
            rintro e w2 ⟨rfl, hb2⟩
            replace B := hid (B.out.below hb2)
            have H2 := hid (H1.out.below hb2)
            replace t1 := keepc hb2 t1
            replace t3 := keepc hb2 t3
            clear hb2 H1 HV
            clear t1
            have n0 := B.out.c (i := 0) (u := .int .i64 0) rfl
            have n1 := B.out.c (i := 1) (u := .int .i64 0) rfl
            have n2 := B.out.c (i := 2) (u := .string ⟨#[]⟩) rfl
            have n3 := B.out.c (i := 3) (u := .slice none 0 0) rfl
            have n4 := B.out.c (i := 4) (u := .slice none 0 0) rfl
            have n5 := B.out.c (i := 5) (u := .int .i64 (S.t.at_ : Nat)) rfl
            have fz0 := B.out.f 0
            have fz1 := B.out.f 1
            have fz2 := B.out.f 2
            have fz3 := B.out.f 3
            have fz4 := B.out.f 4
            have fz5 := B.out.f 5
            go_wp2_with fail
            clear n0 n1 n2 n3 n4 n5 fz0 fz1 fz2 fz3 fz4 fz5 t3
            replace H2 := hid (H2.out.setB B.out 0 (.int .i64 q1))
            replace B := hid (B.out.set (cs' := #[.int .i64 q1, .int .i64 0, .string ⟨#[]⟩, .slice none 0 0, .slice none 0 0, .int .i64 (S.t.at_ : Nat)]) 0 (.int .i64 q1) rfl)
            replace H2 := hid (H2.out.setB B.out 1 (.int .i64 q2))
            replace B := hid (B.out.set (cs' := #[.int .i64 q1, .int .i64 q2, .string ⟨#[]⟩, .slice none 0 0, .slice none 0 0, .int .i64 (S.t.at_ : Nat)]) 1 (.int .i64 q2) rfl)
            replace H2 := hid (H2.out.setB B.out 2 (.string ⟨#[]⟩))
            replace B := hid (B.out.set (cs' := #[.int .i64 q1, .int .i64 q2, .string ⟨#[]⟩, .slice none 0 0, .slice none 0 0, .int .i64 (S.t.at_ : Nat)]) 2 (.string ⟨#[]⟩) rfl)
            replace H2 := hid (H2.out.setB B.out 3 (.slice none 0 0))
            replace B := hid (B.out.set (cs' := #[.int .i64 q1, .int .i64 q2, .string ⟨#[]⟩, .slice none 0 0, .slice none 0 0, .int .i64 (S.t.at_ : Nat)]) 3 (.slice none 0 0) rfl)
            replace H2 := hid (H2.out.setB B.out 4 (.slice none 0 0))
            replace B := hid (B.out.set (cs' := #[.int .i64 q1, .int .i64 q2, .string ⟨#[]⟩, .slice none 0 0, .slice none 0 0, .int .i64 (S.t.at_ : Nat)]) 4 (.slice none 0 0) rfl)
            replace H2 := hid (H2.out.setB B.out 5 (.int .i64 0))
            replace B := hid (B.out.set (cs' := #[.int .i64 q1, .int .i64 q2, .string ⟨#[]⟩, .slice none 0 0, .slice none 0 0, .int .i64 0]) 5 (.int .i64 0) rfl)
            replace H2 := hid (H2.out.setB B.out 5 (.int .i64 (S.t.at_ : Nat)))
            replace B := hid (B.out.set (cs' := #[.int .i64 q1, .int .i64 q2, .string ⟨#[]⟩, .slice none 0 0, .slice none 0 0, .int .i64 (S.t.at_ : Nat)]) 5 (.int .i64 (S.t.at_ : Nat)) rfl)
            refine (move_c H2.out.p).mono ?_
            rintro e w3 ⟨rfl, hN⟩
            obtain ⟨ok3, v3, h3, m3⟩ := H2.out.call hN
            have H3 := hid h3
            replace B := hid (B.out.mv m3)
            clear hN h3 m3 H2
            have n0 := B.out.c (i := 0) (u := .int .i64 q1) rfl
            have n1 := B.out.c (i := 1) (u := .int .i64 q2) rfl
            have n2 := B.out.c (i := 2) (u := .string ⟨#[]⟩) rfl
            have n3 := B.out.c (i := 3) (u := .slice none 0 0) rfl
            have n4 := B.out.c (i := 4) (u := .slice none 0 0) rfl
            have n5 := B.out.c (i := 5) (u := .int .i64 (S.t.at_ : Nat)) rfl
            go_wp2_with fail
            clear n0 n1 n2 n3 n4 n5
            refine (put_nil H3.out HRR.out).mono ?_
            rintro e wz ⟨rfl, hN⟩
            have HN := hid hN
            clear hN
            go_wp2_with fail
            go_ret
            exact ⟨ret_nat rfl, HN.out⟩
        · skip
          rw [if_neg hk] at hr
          dsimp only at hr
          have HR0 := hid hr
          clear hr
          unfold ptr
          go_enter Try.func100, Try.ntmps100
          go_wp2_with fail
          clear hk hk1 hk2 hk3
          have B := hid (NB.new (H0.out.alloc (.cells #[.int .i64 S.t.kind, .string S.t.text, .int .i64 S.t.num, .int .i64 (S.t.at_ : Nat), .bool S.t.line] 55)) #[.int .i64 0, .int .i64 0, .string ⟨#[]⟩, .slice none 0 0, .slice none 0 0, .int .i64 (S.t.at_ : Nat)])
          rw [show (w.alloc (.cells #[.int .i64 S.t.kind, .string S.t.text, .int .i64 S.t.num, .int .i64 (S.t.at_ : Nat), .bool S.t.line] 55)).heap.size = w.heap.size + 1 by simp] at B
          replace H0 := hid ((H0.out.alloc (.cells #[.int .i64 S.t.kind, .string S.t.text, .int .i64 S.t.num, .int .i64 (S.t.at_ : Nat), .bool S.t.line] 55)).alloc (.cells #[.int .i64 0, .int .i64 0, .string ⟨#[]⟩, .slice none 0 0, .slice none 0 0, .int .i64 (S.t.at_ : Nat)] 37))
          clear c1 c2 c3 c4 c5
          have hr := HR0.out
          clear HR0
          have HR := hid hr
          clear hr
          rcases Bool.eq_false_or_eq_true (S.is (⟨#[102, 117, 110, 99, 116, 105, 111, 110]⟩ : ByteArray)) with hf | hf
          · skip
            have hr := HR.out
            clear HR
            rw [if_pos hf] at hr
            have HX := hid hr
            clear hr
            have HI := hid (is_hit H0.out.p (⟨#[102, 117, 110, 99, 116, 105, 111, 110]⟩ : ByteArray) hf)
            clear hf
            refine HI.out.mono ?_
            rintro e w' ⟨rfl, rfl⟩
            clear HI
            go_wp2_with fail
            refine (hG.fn HX.out H0.out.p).mono ?_
            rintro e w1 ⟨rfl, hN⟩
            obtain ⟨ok1, v1, h1, m1⟩ := H0.out.call hN
            have H1 := hid h1
            replace B := hid (B.out.mv m1)
            clear hN h1 m1 H0
            go_wp2_with fail
            go_ret
            exact ⟨ret_nat rfl, H1.out.nx⟩
          · skip
            have hr := HR.out
            clear HR
            rw [if_f hf] at hr
            have HI := hid (is_hit H0.out.p (⟨#[102, 117, 110, 99, 116, 105, 111, 110]⟩ : ByteArray) hf)
            clear hf
            have HR := hid hr
            clear hr
            refine HI.out.mono ?_
            rintro e w' ⟨rfl, rfl⟩
            clear HI
            go_wp2_with fail
            have hr := HR.out
            clear HR
            rcases Bool.eq_false_or_eq_true ((S).hasB (⟨#[40]⟩ : ByteArray)) with hb | hb
            · skip
              rw [if_pos hb] at hr
              refine (has_hit H0.out.p (⟨#[40]⟩ : ByteArray) hb).mono ?_
              rintro e w1 ⟨rfl, hN⟩
              obtain ⟨ok1, v1, h1, m1⟩ := H0.out.call hN
              have H1 := hid h1
              replace B := hid (B.out.mv m1)
              clear hN h1 m1 H0
              clear hb
              obtain ⟨⟨x1, x2, x3⟩, hx, hr2⟩ := Option.bind_eq_some_iff.1 hr
              have HX := hid hx
              clear hr hx
              dsimp only at hr2
              have hr := hr2
              clear hr2
              obtain ⟨rfl, rfl, rfl⟩ := some3 hr
              clear hr
              go_wp2_with fail
              refine (hG.e HX.out H1.out.p).mono ?_
              rintro e w2 ⟨rfl, hN⟩
              obtain ⟨ok2, v2, h2, m2⟩ := H1.out.call hN
              have H2 := hid h2
              replace B := hid (B.out.mv m2)
              clear hN h2 m2 H1
              go_wp2_with fail
              refine (must_c H2.out.p (⟨#[41]⟩ : ByteArray)).mono ?_
              rintro e w3 ⟨rfl, hN⟩
              obtain ⟨ok3, v3, h3, m3⟩ := H2.out.call hN
              have H3 := hid h3
              replace B := hid (B.out.mv m3)
              clear hN h3 m3 H2
              go_wp2_with fail
              go_ret
              exact ⟨ret_nat rfl, H3.out.nx⟩
            · skip
              rw [if_f hb] at hr
              refine (has_miss H0.out.p (⟨#[40]⟩ : ByteArray) hb).mono ?_
              rintro e w1 ⟨rfl, hN⟩
              obtain ⟨ok1, v1, h1, m1⟩ := H0.out.call hN
              have H1 := hid h1
              replace B := hid (B.out.mv m1)
              clear hN h1 m1 H0
              clear hb
              have HR := hid hr
              clear hr
              go_wp2_with fail
              have hr := HR.out
              clear HR
              rcases Bool.eq_false_or_eq_true ((S).hasB (⟨#[91]⟩ : ByteArray)) with hb | hb
              · skip
                rw [if_pos hb] at hr
                refine (has_hit H1.out.p (⟨#[91]⟩ : ByteArray) hb).mono ?_
                rintro e w2 ⟨rfl, hN⟩
                obtain ⟨ok2, v2, h2, m2⟩ := H1.out.call hN
                have H2 := hid h2
                replace B := hid (B.out.mv m2)
                clear hN h2 m2 H1
                clear hb
                obtain ⟨⟨x1, x2, x3⟩, hx, hr2⟩ := Option.bind_eq_some_iff.1 hr
                have HX := hid hx
                clear hr hx
                dsimp only at hr2
                have hr := hr2
                clear hr2
                obtain ⟨hr2, rfl⟩ := one1_some hr
                have HRR := hid hr2
                clear hr hr2
                have n0 := B.out.c (i := 0) (u := .int .i64 0) rfl
                have fz0 := B.out.f 0
                go_wp2_with fail
                clear n0 fz0
                replace H2 := hid (H2.out.setB B.out 0 (.int .i64 9))
                replace B := hid (B.out.set (cs' := #[.int .i64 9, .int .i64 0, .string ⟨#[]⟩, .slice none 0 0, .slice none 0 0, .int .i64 (S.t.at_ : Nat)]) 0 (.int .i64 9) rfl)
                have hbl := B.out.lt
                refine (hG.commas HX.out H2.out.p).mono ?_
                rintro e w3 ⟨val, ok3, v3, rfl, g1, l1⟩
                obtain ⟨A1, c1', rfl⟩ := l1.slice
                obtain ⟨h1, m1⟩ := H2.out.trans g1
                replace B := hid (B.out.mv m1)
                have H3 := hid h1
                have L := hid l1
                have HBL := hid hbl
                have HLE := hid H2.out.kp.size
                clear g1 l1 h1 m1 hbl H2
                have n0 := B.out.c (i := 0) (u := .int .i64 9) rfl
                have n1 := B.out.c (i := 1) (u := .int .i64 0) rfl
                have n2 := B.out.c (i := 2) (u := .string ⟨#[]⟩) rfl
                have n3 := B.out.c (i := 3) (u := .slice none 0 0) rfl
                have n4 := B.out.c (i := 4) (u := .slice none 0 0) rfl
                have n5 := B.out.c (i := 5) (u := .int .i64 (S.t.at_ : Nat)) rfl
                have fz4 := B.out.f 4
                go_wp2_with fail
                clear n0 n1 n2 n3 n4 n5 fz4
                replace L := hid (L.out.setB HBL.out 4 (.slice A1 x2.length c1'))
                replace H3 := hid (H3.out.setB B.out 4 (.slice A1 x2.length c1'))
                refine (put_row H3.out (L.out.le HLE.out) HRR.out).mono ?_
                rintro e wz ⟨rfl, hN⟩
                have HN := hid hN
                clear hN
                go_wp2_with fail
                go_ret
                exact ⟨ret_nat rfl, HN.out⟩
              · skip
                rw [if_f hb] at hr
                refine (has_miss H1.out.p (⟨#[91]⟩ : ByteArray) hb).mono ?_
                rintro e w2 ⟨rfl, hN⟩
                obtain ⟨ok2, v2, h2, m2⟩ := H1.out.call hN
                have H2 := hid h2
                replace B := hid (B.out.mv m2)
                clear hN h2 m2 H1
                clear hb
                have HR := hid hr
                clear hr
                go_wp2_with fail
                have hr := HR.out
                clear HR
                rcases Bool.eq_false_or_eq_true ((S).hasB (⟨#[123]⟩ : ByteArray)) with hb | hb
                · skip
                  rw [if_pos hb] at hr
                  refine (has_hit H2.out.p (⟨#[123]⟩ : ByteArray) hb).mono ?_
                  rintro e w3 ⟨rfl, hN⟩
                  obtain ⟨ok3, v3, h3, m3⟩ := H2.out.call hN
                  have H3 := hid h3
                  replace B := hid (B.out.mv m3)
                  clear hN h3 m3 H2
                  clear hb
                  have HX := hid hr
                  clear hr
                  have n0 := B.out.c (i := 0) (u := .int .i64 0) rfl
                  have n1 := B.out.c (i := 1) (u := .int .i64 0) rfl
                  have n2 := B.out.c (i := 2) (u := .string ⟨#[]⟩) rfl
                  have n3 := B.out.c (i := 3) (u := .slice none 0 0) rfl
                  have n4 := B.out.c (i := 4) (u := .slice none 0 0) rfl
                  have n5 := B.out.c (i := 5) (u := .int .i64 (S.t.at_ : Nat)) rfl
                  go_wp2_with fail
                  clear n0 n1 n2 n3 n4 n5
                  refine (hG.obj HX.out H3.out.p).mono ?_
                  rintro e w4 ⟨rfl, hN⟩
                  obtain ⟨ok4, v4, h4, m4⟩ := H3.out.call hN
                  have H4 := hid h4
                  replace B := hid (B.out.mv m4)
                  clear hN h4 m4 H3
                  go_wp2_with fail
                  go_ret
                  exact ⟨ret_nat rfl, H4.out.nx⟩
                · skip
                  rw [if_f hb] at hr
                  refine (has_miss H2.out.p (⟨#[123]⟩ : ByteArray) hb).mono ?_
                  rintro e w3 ⟨rfl, hN⟩
                  obtain ⟨ok3, v3, h3, m3⟩ := H2.out.call hN
                  have H3 := hid h3
                  replace B := hid (B.out.mv m3)
                  clear hN h3 m3 H2
                  clear hb
                  obtain ⟨rfl, rfl, rfl⟩ := some3 hr
                  clear hr
                  clear hG
                  have c9 := H3.out.p.c9
                  have f9 := H3.out.p.f 9
                  go_wp2_with fail
                  go_ret
                  exact ⟨ret_nat rfl, H3.out.spoil⟩
end
end Go.Proofs.Ytibepkblgliooaa.Q
