/- What a proof further on needs (part o). -/
import Derived.Test.YtibepkblgliooaaKg
set_option linter.unusedVariables false
namespace Go.Proofs.Ytibepkblgliooaa.Q
open Go.RowKit
open Go.Proofs.YtibepkblgliooaaW.PrintWords
section
variable {n k : Nat} {ks : List Nat} {S S' : Ps} {w : World} {a : Nat} {ok : Nat → Prop} {v : Value}
set_option maxHeartbeats 6400000 in
set_option maxRecDepth 100000 in
theorem fn_w {named : Bool} (G : ∀ m, m < n → Good m) (hr : run n (.fn named) S = some (k, ks, S')) (h : PI w a ok v S) : Calls Try.prog 64 #[ptr a, .bool named] w (Ret w a ok k S') := by
  cases n with
  | zero => cases hr
  | succ n =>
  have hG := G n (Nat.lt_succ_self n)
  change fnF (run n) n named S = _ at hr
  have H0 := hid (At.start h)
  clear G h
  unfold fnF at hr
  dsimp only at hr
  have c4 := H0.out.p.c4
  have HR := hid hr
  clear hr
  unfold ptr
  go_enter Try.func64, Try.ntmps64
  go_wp2_with fail
  clear c4
  obtain ⟨b, hbw⟩ : ∃ b, b = w.heap.size := ⟨_, rfl⟩
  have B : Box (NB w.heap.size (w.alloc (.cells #[.int .i64 10, .int .i64 0, .string ⟨#[]⟩, .slice none 0 0, .slice none 0 0, .int .i64 (S.t.at_ : Nat)] 37)) a ok b #[.int .i64 10, .int .i64 0, .string ⟨#[]⟩, .slice none 0 0, .slice none 0 0, .int .i64 (S.t.at_ : Nat)]) := hid (by rw [hbw]; exact NB.new H0.out _)
  replace H0 := hid (H0.out.alloc (.cells #[.int .i64 10, .int .i64 0, .string ⟨#[]⟩, .slice none 0 0, .slice none 0 0, .int .i64 (S.t.at_ : Nat)] 37))
  rw [← hbw]
  have HBW := hid hbw
  clear hbw
  go_wp2_with fail
  refine (must_c H0.out.p (⟨#[102, 117, 110, 99, 116, 105, 111, 110]⟩ : ByteArray)).mono ?_
  rintro e w1 ⟨rfl, hN⟩
  obtain ⟨ok1, v1, h1, m1⟩ := H0.out.call hN
  have H1 := hid h1
  replace B := hid (B.out.mv m1)
  clear hN h1 m1 H0
  go_wp2_with fail
  rcases Bool.eq_false_or_eq_true ((S.must (⟨#[102, 117, 110, 99, 116, 105, 111, 110]⟩ : ByteArray)).hasB (⟨#[42]⟩ : ByteArray)) with hb | hb
  · skip
    have hr := HR.out
    clear HR
    simp only [Ps.has, hb, if_true] at hr
    refine (has_hit H1.out.p (⟨#[42]⟩ : ByteArray) hb).mono ?_
    rintro e w2 ⟨rfl, hN⟩
    obtain ⟨ok2, v2, h2, m2⟩ := H1.out.call hN
    have H2 := hid h2
    replace B := hid (B.out.mv m2)
    clear hN h2 m2 H1
    clear hb
    obtain ⟨S2, eS2⟩ : ∃ S2, S2 = (S.must (⟨#[102, 117, 110, 99, 116, 105, 111, 110]⟩ : ByteArray)).move := ⟨_, rfl⟩
    rw [← eS2] at hr H2
    clear eS2
    have n1 := B.out.c (i := 1) (u := .int .i64 0) rfl
    have fz1 := B.out.f 1
    go_upto_region 5 with fail
    clear n1 fz1
    replace H2 := hid (H2.out.setB B.out 1 (.int .i64 1))
    replace B := hid (B.out.set (cs' := #[.int .i64 10, .int .i64 1, .string ⟨#[]⟩, .slice none 0 0, .slice none 0 0, .int .i64 (S.t.at_ : Nat)]) 1 (.int .i64 1) rfl)
    generalize (w2.setCell ⟨b, 1, none⟩ (.int .i64 1)) = W2 at H2 B ⊢
    cases named
    · skip
      rw [Bool.false_or] at hr
      have c1 := H2.out.p.c1
      rcases Bool.eq_false_or_eq_true (decide (S2.t.kind = 3)) with hk | hk
      · skip
        rw [if_pos hk] at hr
        have hk' : S2.t.kind = 3 := by simpa using hk
        rw [hk'] at c1
        clear hk hk'
        go_wp2_with fail
        clear c1
        refine (name_c H2.out.p).mono ?_
        rintro e w3 ⟨rfl, hN⟩
        obtain ⟨ok3, v3, h3, m3⟩ := H2.out.call hN
        have H3 := hid h3
        replace B := hid (B.out.mv m3)
        clear hN h3 m3 H2
        have n2 := B.out.c (i := 2) (u := .string ⟨#[]⟩) rfl
        have fz2 := B.out.f 2
        go_upto_region 7 with fail
        clear n2 fz2
        replace H3 := hid (H3.out.setB B.out 2 (.string S2.nameT))
        replace B := hid (B.out.set (cs' := #[.int .i64 10, .int .i64 1, .string S2.nameT, .slice none 0 0, .slice none 0 0, .int .i64 (S.t.at_ : Nat)]) 2 (.string S2.nameT) rfl)
        generalize (w3.setCell ⟨b, 2, none⟩ (.string S2.nameT)) = V3 at H3 B ⊢
        unfold fnT at hr
        obtain ⟨⟨x1, x2⟩, hx, hr2⟩ := Option.bind_eq_some_iff.1 hr
        clear hr
        have hr := hr2
        clear hr2
        dsimp only at hr
        unfold names0 at hx
        obtain ⟨⟨y1, y2, y3⟩, hy, hr2⟩ := Option.bind_eq_some_iff.1 hr
        have HY := hid hy
        clear hr hy
        dsimp only at hr2
        have hr := hr2
        clear hr2
        obtain ⟨hr2, rfl⟩ := one1_some hr
        have HRR := hid hr2
        clear hr hr2
        have HX := hid hx
        clear hx
        go_wp2_with fail
        refine (must_c H3.out.p (⟨#[40]⟩ : ByteArray)).mono ?_
        rintro e w4 ⟨rfl, hN⟩
        obtain ⟨ok4, v4, h4, m4⟩ := H3.out.call hN
        have H4 := hid h4
        replace B := hid (B.out.mv m4)
        clear hN h4 m4 H3
        obtain ⟨S4, eS4⟩ : ∃ S4, S4 = (S2.name.must (⟨#[40]⟩ : ByteArray)) := ⟨_, rfl⟩
        rw [← eS4] at HX H4
        clear eS4
        go_wp2_with fail
        rcases Bool.eq_false_or_eq_true (S4.is (⟨#[41]⟩ : ByteArray)) with hp | hp
        · skip
          have hx := HX.out
          clear HX
          rw [if_neg (by simp [hp])] at hx
          obtain ⟨rfl, rfl⟩ : [] = x1 ∧ S4 = x2 := by injection hx with hx; injection hx with h1 h2; exact ⟨h1, h2⟩
          clear hx
          have HI := hid (is_hit H4.out.p (⟨#[41]⟩ : ByteArray) hp)
          clear hp
          refine HI.out.mono ?_
          rintro e w' ⟨rfl, rfl⟩
          clear HI
          have R := hid (SR.nil (b + 1) w4 a ok4)
          go_wp2_with fail
          refine (must_c H4.out.p (⟨#[41]⟩ : ByteArray)).mono ?_
          rintro e w5 ⟨rfl, hN⟩
          obtain ⟨ok5, v5, h5, m5⟩ := H4.out.call hN
          have H5 := hid h5
          replace B := hid (B.out.mv m5)
          replace R := hid (R.out.mv m5)
          clear hN h5 m5 H4
          go_wp2_with fail
          refine (must_c H5.out.p (⟨#[123]⟩ : ByteArray)).mono ?_
          rintro e w6 ⟨rfl, hN⟩
          obtain ⟨ok6, v6, h6, m6⟩ := H5.out.call hN
          have H6 := hid h6
          replace B := hid (B.out.mv m6)
          replace R := hid (R.out.mv m6)
          clear hN h6 m6 H5
          go_wp2_with fail
          refine (hG.list HY.out H6.out.p).mono ?_
          rintro e w7 ⟨vk, ok7, v7, rfl, g1, l1⟩
          obtain ⟨A1, c1', rfl⟩ := l1.slice
          obtain ⟨h1, m1⟩ := H6.out.trans g1
          have HBL := hid B.out.lt
          have HLE := hid H6.out.kp.size
          replace B := hid (B.out.mv m1)
          replace R := hid (R.out.mv m1)
          have H7 := hid h1
          have L := hid l1
          clear g1 l1 h1 m1 H6
          have n4 := B.out.c (i := 4) (u := .slice none 0 0) rfl
          have fz4 := B.out.f 4
          go_wp2_with fail
          clear n4 fz4
          replace L := hid (L.out.setB HBL.out 4 (.slice A1 y2.length c1'))
          replace R := hid (R.out.setB (Nat.lt_succ_self _) 4 (.slice A1 y2.length c1'))
          replace H7 := hid (H7.out.setB B.out 4 (.slice A1 y2.length c1'))
          replace B := hid (B.out.set (cs' := #[.int .i64 10, .int .i64 1, .string S2.nameT, .slice none 0 0, .slice A1 y2.length c1', .int .i64 (S.t.at_ : Nat)]) 4 (.slice A1 y2.length c1') rfl)
          refine (must_c H7.out.p (⟨#[125]⟩ : ByteArray)).mono ?_
          rintro e w8 ⟨rfl, hN⟩
          obtain ⟨ok8, v8, h8, m8⟩ := H7.out.call hN
          have H8 := hid h8
          replace L := hid (L.out.mv m8)
          replace B := hid (B.out.mv m8)
          replace R := hid (R.out.mv m8)
          clear hN h8 m8 H7
          have n0 := B.out.c (i := 0) (u := .int .i64 10) rfl
          have n1 := B.out.c (i := 1) (u := .int .i64 1) rfl
          have n2 := B.out.c (i := 2) (u := .string S2.nameT) rfl
          have n3 := B.out.c (i := 3) (u := .slice none 0 0) rfl
          have n4 := B.out.c (i := 4) (u := .slice A1 y2.length c1') rfl
          have n5 := B.out.c (i := 5) (u := .int .i64 (S.t.at_ : Nat)) rfl
          go_wp2_with fail
          clear n0 n1 n2 n3 n4 n5
          refine (put_both H8.out (R.out.le (by have := HBW.out; omega)) (L.out.le HLE.out) HRR.out).mono ?_
          rintro e wz ⟨rfl, hN⟩
          have HN := hid hN
          clear hN
          go_wp2_with fail
          go_ret
          exact ⟨ret_nat rfl, HN.out⟩
        · skip
          have hx := HX.out
          clear HX
          rw [if_pos (by simp [hp])] at hx
          have HX := hid hx
          clear hx
          have HI := hid (is_hit H4.out.p (⟨#[41]⟩ : ByteArray) hp)
          clear hp
          refine HI.out.mono ?_
          rintro e w' ⟨rfl, rfl⟩
          clear HI
          go_upto_region 9 with fail
          obtain ⟨Sx, eSx⟩ : ∃ Sx, Sx = S4 := ⟨_, rfl⟩
          rw [← eSx] at HX H4
          clear eSx
          have y3 := B.out.c (i := 3) (u := .slice none 0 0) rfl
          have HD := hid (H4.out.below (Below.refl w4.heap.size w4).drew)
          have BD := hid (B.out.below (Below.refl w4.heap.size w4).drew)
          have RD := hid (SR.nil (b + 1) w4.drew a ok4)
          clear H4 B
          refine wp_region_until [7] (S := (fun w' => w'.cell? ⟨b, 3, none⟩ = some (.slice none 0 0))) (by kernel_rfl) ?_ ?_
          · go_keep
          intro hS
          refine wpAnyU_take (i := 0) (v := (.pointer (some ⟨b, 3, none⟩))) rfl (by kernel_rfl) (fun _ _ _ h => h) (leads_of [[7]] (by kernel_rfl)) (by kernel_rfl) (by kernel_rfl) (by kernel_rfl) (Or.inl ⟨by rfl, ?_⟩) hS ?_
          · intro w' hS'
            have s0 := hS'
            go_simp
          change wpAnyU _ _ _ _ _ _ _ _ (Act.put _ (some 36) _) _
          simp only [Act.put, List.setIfInBounds_toArray, List.set_cons_succ, List.set_cons_zero]
          refine wpAnyU_take (i := 1) (v := (.slice none 0 0)) rfl (by kernel_rfl) (fun _ _ _ h => h) (leads_of [[7]] (by kernel_rfl)) (by kernel_rfl) (by kernel_rfl) (by kernel_rfl) (Or.inl ⟨by rfl, ?_⟩) hS ?_
          · intro w' hS'
            have s0 := hS'
            go_simp
          change wpAnyU _ _ _ _ _ _ _ _ (Act.put _ (some 37) _) _
          simp only [Act.put, List.setIfInBounds_toArray, List.set_cons_succ, List.set_cons_zero]
          refine wpAnyU_take (i := 2) (v := (.pointer (some ⟨a, 0, none⟩))) rfl (by kernel_rfl) (fun _ _ _ h => h) (leads_of [[7]] (by kernel_rfl)) (by kernel_rfl) (by kernel_rfl) (by kernel_rfl) (Or.inl ⟨by rfl, ?_⟩) hS ?_
          · intro w' hS'
            have s0 := hS'
            go_simp
          change wpAnyU _ _ _ _ _ _ _ _ (Act.put _ (some 38) _) _
          simp only [Act.put, List.setIfInBounds_toArray, List.set_cons_succ, List.set_cons_zero]
          refine wpAnyU_all (rs := [3]) (by kernel_rfl) (by simp) ?_
          intro j hj
          obtain rfl := List.mem_singleton.1 hj
          clear hj
          refine wpOp_shut rfl (fun K' HK => ?_)
          refine step_call rfl (f := 70) rfl Try.func70 (by kernel_rfl) rfl #[.pointer (some ⟨a, 0, none⟩)] (by simp only [List.map_toArray, List.map_cons, List.map_nil]; rfl) ?_
          refine (name_c HD.out.p).mono ?_
          rintro e w1 ⟨rfl, hN⟩
          refine ⟨_, rfl, ?_⟩
          obtain ⟨ok1, v1, h1, m1⟩ := HD.out.call hN
          have H1 := hid h1
          have B1 := hid (BD.out.mv m1)
          have R1 := hid (RD.out.mv m1)
          clear hN h1 m1
          have z3 := B1.out.c (i := 3) (u := .slice none 0 0) rfl
          refine HK.out _ _ ⟨.inr ?_, ?_⟩
          · exact z3
          clear HK K'
          have hS := z3
          change wpAnyU _ _ _ _ _ _ _ _ (Act.put _ (some 39) _) _
          simp only [Act.put, List.setIfInBounds_toArray, List.set_cons_succ, List.set_cons_zero]
          refine wpAnyU_all (rs := [4]) (by kernel_rfl) (by simp) ?_
          intro j hj
          obtain rfl := List.mem_singleton.1 hj
          clear hj
          refine wpOp_shut rfl (fun K' HK => ?_)
          go_simp
          have HB6 := hid (below_alloc (Below.refl w1.heap.size w1) (.cells #[.string Sx.nameT] 9))
          refine HK.out _ _ ⟨.inr ?_, ?_⟩
          · exact keepc HB6.out z3
          clear HK K'
          have hS := keepc HB6.out z3
          try simp only [Act.put, List.setIfInBounds_toArray, List.set_cons_succ, List.set_cons_zero]
          refine wpAnyU_all (rs := [5]) (by kernel_rfl) (by simp) ?_
          intro j hj
          obtain rfl := List.mem_singleton.1 hj
          clear hj
          refine wpOp_shut rfl (fun K' HK => ?_)
          refine SR.append_step ?h0q1 (.tmp 37) (.tmp 40) ?h1q1 H1.out R1.out ?c1q1 ?c2q1 ?c3q1 ?c4q1 ?c5q1 ?_
          (case h0q1 => rfl)
          (case h1q1 => rfl)
          (case c1q1 => have := HBW.out; omega)
          (case c2q1 => exact B1.out.lt)
          (case c3q1 => simp)
          (case c4q1 => rfl)
          (case c5q1 => rfl)
          intro val1 w2 h2 r2 hg
          obtain ⟨A2, c2, e2⟩ := r2.slice
          obtain rfl : val1 = .slice A2 1 c2 := e2
          have B2 := hid (B1.out.grown R1.out (Nat.lt_succ_self _) hg)
          have H2 := hid h2
          have R2 := hid r2
          clear hg h2 r2
          have zz3 := B2.out.c (i := 3) (u := .slice none 0 0) rfl
          have fz3 := B2.out.f 3
          refine HK.out _ _ ⟨.inr ?_, ?_⟩
          · exact zz3
          clear HK K'
          have hS := zz3
          change wpAnyU _ _ _ _ _ _ _ _ (Act.put _ (some 41) _) _
          simp only [Act.put, List.setIfInBounds_toArray, List.set_cons_succ, List.set_cons_zero]
          refine wpAnyU_take (i := 6) (v := (.pointer (some ⟨b, 3, none⟩))) rfl (by kernel_rfl) (fun _ _ _ h => h) (leads_of [[7]] (by kernel_rfl)) (by kernel_rfl) (by kernel_rfl) (by kernel_rfl) (Or.inl ⟨by rfl, ?_⟩) hS ?_
          · intro w' hS'
            have s0 := hS'
            go_simp
          change wpAnyU _ _ _ _ _ _ _ _ (Act.put _ (some 42) _) _
          simp only [Act.put, List.setIfInBounds_toArray, List.set_cons_succ, List.set_cons_zero]
          refine wpAnyU_all (rs := [7]) (by kernel_rfl) (by simp) ?_
          intro j hj
          obtain rfl := List.mem_singleton.1 hj
          clear hj
          refine wpOp_shut rfl (fun K' HK => ?_)
          go_simp
          refine HK.out _ _ ⟨.inl (by decide), ?_⟩
          clear HK K'
          refine wpAnyU_done (by kernel_rfl) ?_ _
          have H3 := hid (H2.out.setB B2.out 3 (.slice A2 1 c2))
          have R3 := hid (R2.out.setB (Nat.lt_succ_self _) 3 (.slice A2 1 c2))
          have B3 := hid (B2.out.set (cs' := #[.int .i64 10, .int .i64 1, .string S2.nameT, .slice A2 1 c2, .slice none 0 0, .int .i64 (S.t.at_ : Nat)]) 3 (.slice A2 1 c2) rfl)
          clear hS HD BD RD H1 B1 R1 HB6 H2 B2 R2 z3 zz3 fz3 y3
          go_wp2_with fail
          go_loopg [] n (fun g wx => ∃ okx vx Sy acc val, g ≤ n ∧ Box (namesL g acc Sy = some (x1, x2)) ∧ Box (At w a ok wx okx vx Sy) ∧ Box (NB w.heap.size wx a okx b #[.int .i64 10, .int .i64 1, .string S2.nameT, val, .slice none 0 0, .int .i64 (S.t.at_ : Nat)]) ∧ Box (SR (b + 1) wx a okx val acc))
          case atStart => exact ⟨_, _, _, _, _, Nat.le_refl _, HX, H3, B3, R3⟩
          case round =>
            clear HX H3 B3 R3
            obtain ⟨okx, vx, Sy, acc, val, hgk, HX, H0, B, R⟩ := hrel
            have hx := HX.out
            clear HX
            cases gk with
            | zero => cases hx
            | succ gk =>
            unfold namesL at hx
            go_wp2_with fail
            rcases Bool.eq_false_or_eq_true (Sy.hasB (⟨#[44]⟩ : ByteArray)) with hc | hc
            · skip
              rw [if_pos hc] at hx
              split at hx
              rotate_left
              · cases hx
              rename_i hlen
              have HLEN := hid hlen
              have HX := hid hx
              clear hx hlen
              refine (has_hit H0.out.p (⟨#[44]⟩ : ByteArray) hc).mono ?_
              rintro e w1 ⟨rfl, hN⟩
              obtain ⟨ok1, v1, h1, m1⟩ := H0.out.call hN
              have H1 := hid h1
              replace B := hid (B.out.mv m1)
              replace R := hid (R.out.mv m1)
              clear hN h1 m1 H0
              clear hc
              obtain ⟨A0, c0, e0⟩ := R.out.slice
              subst e0
              obtain ⟨Sx, eSx⟩ : ∃ Sx, Sx = Sy.move := ⟨_, rfl⟩
              rw [← eSx] at HX H1
              clear eSx
              go_upto_region 11 with fail
              have y3 := B.out.c (i := 3) (u := .slice A0 acc.length c0) rfl
              have HD := hid (H1.out.below (Below.refl w1.heap.size w1).drew)
              have BD := hid (B.out.below (Below.refl w1.heap.size w1).drew)
              have RD := hid (R.out.below (Below.refl w1.heap.size w1).drew)
              clear H1 B R
              refine wp_region_until [7] (S := (fun w' => w'.cell? ⟨b, 3, none⟩ = some (.slice A0 acc.length c0))) (by kernel_rfl) ?_ ?_
              · go_keep
              intro hS
              refine wpAnyU_take (i := 0) (v := (.pointer (some ⟨b, 3, none⟩))) rfl (by kernel_rfl) (fun _ _ _ h => h) (leads_of [[7]] (by kernel_rfl)) (by kernel_rfl) (by kernel_rfl) (by kernel_rfl) (Or.inl ⟨by rfl, ?_⟩) hS ?_
              · intro w' hS'
                have s0 := hS'
                go_simp
              change wpAnyU _ _ _ _ _ _ _ _ (Act.put _ (some 45) _) _
              simp only [Act.put, List.setIfInBounds_toArray, List.set_cons_succ, List.set_cons_zero]
              refine wpAnyU_take (i := 1) (v := (.slice A0 acc.length c0)) rfl (by kernel_rfl) (fun _ _ _ h => h) (leads_of [[7]] (by kernel_rfl)) (by kernel_rfl) (by kernel_rfl) (by kernel_rfl) (Or.inl ⟨by rfl, ?_⟩) hS ?_
              · intro w' hS'
                have s0 := hS'
                go_simp
              change wpAnyU _ _ _ _ _ _ _ _ (Act.put _ (some 46) _) _
              simp only [Act.put, List.setIfInBounds_toArray, List.set_cons_succ, List.set_cons_zero]
              refine wpAnyU_take (i := 2) (v := (.pointer (some ⟨a, 0, none⟩))) rfl (by kernel_rfl) (fun _ _ _ h => h) (leads_of [[7]] (by kernel_rfl)) (by kernel_rfl) (by kernel_rfl) (by kernel_rfl) (Or.inl ⟨by rfl, ?_⟩) hS ?_
              · intro w' hS'
                have s0 := hS'
                go_simp
              change wpAnyU _ _ _ _ _ _ _ _ (Act.put _ (some 47) _) _
              simp only [Act.put, List.setIfInBounds_toArray, List.set_cons_succ, List.set_cons_zero]
              refine wpAnyU_all (rs := [3]) (by kernel_rfl) (by simp) ?_
              intro j hj
              obtain rfl := List.mem_singleton.1 hj
              clear hj
              refine wpOp_shut rfl (fun K' HK => ?_)
              refine step_call rfl (f := 70) rfl Try.func70 (by kernel_rfl) rfl #[.pointer (some ⟨a, 0, none⟩)] (by simp only [List.map_toArray, List.map_cons, List.map_nil]; rfl) ?_
              refine (name_c HD.out.p).mono ?_
              rintro e w7 ⟨rfl, hN⟩
              refine ⟨_, rfl, ?_⟩
              obtain ⟨ok1, v1, h1, m1⟩ := HD.out.call hN
              have H1 := hid h1
              have B1 := hid (BD.out.mv m1)
              have R1 := hid (RD.out.mv m1)
              clear hN h1 m1
              have z3 := B1.out.c (i := 3) (u := .slice A0 acc.length c0) rfl
              refine HK.out _ _ ⟨.inr ?_, ?_⟩
              · exact z3
              clear HK K'
              have hS := z3
              change wpAnyU _ _ _ _ _ _ _ _ (Act.put _ (some 48) _) _
              simp only [Act.put, List.setIfInBounds_toArray, List.set_cons_succ, List.set_cons_zero]
              refine wpAnyU_all (rs := [4]) (by kernel_rfl) (by simp) ?_
              intro j hj
              obtain rfl := List.mem_singleton.1 hj
              clear hj
              refine wpOp_shut rfl (fun K' HK => ?_)
              go_simp
              have HB6 := hid (below_alloc (Below.refl w7.heap.size w7) (.cells #[.string Sx.nameT] 9))
              refine HK.out _ _ ⟨.inr ?_, ?_⟩
              · exact keepc HB6.out z3
              clear HK K'
              have hS := keepc HB6.out z3
              try simp only [Act.put, List.setIfInBounds_toArray, List.set_cons_succ, List.set_cons_zero]
              refine wpAnyU_all (rs := [5]) (by kernel_rfl) (by simp) ?_
              intro j hj
              obtain rfl := List.mem_singleton.1 hj
              clear hj
              refine wpOp_shut rfl (fun K' HK => ?_)
              refine SR.append_step ?h0q2 (.tmp 46) (.tmp 49) ?h1q2 H1.out R1.out ?c1q2 ?c2q2 ?c3q2 ?c4q2 ?c5q2 ?_
              (case h0q2 => rfl)
              (case h1q2 => rfl)
              (case c1q2 => have := HBW.out; omega)
              (case c2q2 => exact B1.out.lt)
              (case c3q2 => exact HLEN.out)
              (case c4q2 => rfl)
              (case c5q2 => rfl)
              intro val1 w2 h2 r2 hg
              obtain ⟨A2, c2, e2⟩ := r2.slice
              rw [List.length_append, List.length_singleton] at e2
              subst e2
              have B2 := hid (B1.out.grown R1.out (Nat.lt_succ_self _) hg)
              have H2 := hid h2
              have R2 := hid r2
              clear hg h2 r2
              have zz3 := B2.out.c (i := 3) (u := .slice A0 acc.length c0) rfl
              have fz3 := B2.out.f 3
              refine HK.out _ _ ⟨.inr ?_, ?_⟩
              · exact zz3
              clear HK K'
              have hS := zz3
              change wpAnyU _ _ _ _ _ _ _ _ (Act.put _ (some 50) _) _
              simp only [Act.put, List.setIfInBounds_toArray, List.set_cons_succ, List.set_cons_zero]
              refine wpAnyU_take (i := 6) (v := (.pointer (some ⟨b, 3, none⟩))) rfl (by kernel_rfl) (fun _ _ _ h => h) (leads_of [[7]] (by kernel_rfl)) (by kernel_rfl) (by kernel_rfl) (by kernel_rfl) (Or.inl ⟨by rfl, ?_⟩) hS ?_
              · intro w' hS'
                have s0 := hS'
                go_simp
              change wpAnyU _ _ _ _ _ _ _ _ (Act.put _ (some 51) _) _
              simp only [Act.put, List.setIfInBounds_toArray, List.set_cons_succ, List.set_cons_zero]
              refine wpAnyU_all (rs := [7]) (by kernel_rfl) (by simp) ?_
              intro j hj
              obtain rfl := List.mem_singleton.1 hj
              clear hj
              refine wpOp_shut rfl (fun K' HK => ?_)
              go_simp
              refine HK.out _ _ ⟨.inl (by decide), ?_⟩
              clear HK K'
              refine wpAnyU_done (by kernel_rfl) ?_ _
              have H3 := hid (H2.out.setB B2.out 3 (.slice A2 (acc.length + 1) c2))
              have R3 := hid (R2.out.setB (Nat.lt_succ_self _) 3 (.slice A2 (acc.length + 1) c2))
              have B3 := hid (B2.out.set (cs' := #[.int .i64 10, .int .i64 1, .string S2.nameT, .slice A2 (acc.length + 1) c2, .slice none 0 0, .int .i64 (S.t.at_ : Nat)]) 3 (.slice A2 (acc.length + 1) c2) rfl)
              clear hS HD BD RD H1 B1 R1 HB6 H2 B2 R2 z3 zz3 fz3 y3
              go_wp2_with fail
              go_roundg gk
              case measure => omega
              case rel => exact ⟨_, _, _, _, _, by omega, HX, H3, B3, R3⟩
            · skip
              rw [if_f hc] at hx
              obtain ⟨rfl, rfl⟩ : acc = x1 ∧ Sy = x2 := by injection hx with hx; injection hx with h1 h2; exact ⟨h1, h2⟩
              clear hx
              refine (has_miss H0.out.p (⟨#[44]⟩ : ByteArray) hc).mono ?_
              rintro e w1 ⟨rfl, hN⟩
              obtain ⟨ok1, v1, h1, m1⟩ := H0.out.call hN
              have H1 := hid h1
              replace B := hid (B.out.mv m1)
              replace R := hid (R.out.mv m1)
              clear hN h1 m1 H0
              clear hc
              obtain ⟨A0, c0, e0⟩ := R.out.slice
              subst e0
              go_wp2_with fail
              refine (must_c H1.out.p (⟨#[41]⟩ : ByteArray)).mono ?_
              rintro e w2 ⟨rfl, hN⟩
              obtain ⟨ok2, v2, h2, m2⟩ := H1.out.call hN
              have H2 := hid h2
              replace B := hid (B.out.mv m2)
              replace R := hid (R.out.mv m2)
              clear hN h2 m2 H1
              go_wp2_with fail
              refine (must_c H2.out.p (⟨#[123]⟩ : ByteArray)).mono ?_
              rintro e w3 ⟨rfl, hN⟩
              obtain ⟨ok3, v3, h3, m3⟩ := H2.out.call hN
              have H3 := hid h3
              replace B := hid (B.out.mv m3)
              replace R := hid (R.out.mv m3)
              clear hN h3 m3 H2
              go_wp2_with fail
              refine (hG.list HY.out H3.out.p).mono ?_
              rintro e w4 ⟨vk, ok4, v4, rfl, g1, l1⟩
              obtain ⟨A1, c1', rfl⟩ := l1.slice
              obtain ⟨h1, m1⟩ := H3.out.trans g1
              have HBL := hid B.out.lt
              have HLE := hid H3.out.kp.size
              replace B := hid (B.out.mv m1)
              replace R := hid (R.out.mv m1)
              have H4 := hid h1
              have L := hid l1
              clear g1 l1 h1 m1 H3
              have n4 := B.out.c (i := 4) (u := .slice none 0 0) rfl
              have fz4 := B.out.f 4
              go_wp2_with fail
              clear n4 fz4
              replace L := hid (L.out.setB HBL.out 4 (.slice A1 y2.length c1'))
              replace R := hid (R.out.setB (Nat.lt_succ_self _) 4 (.slice A1 y2.length c1'))
              replace H4 := hid (H4.out.setB B.out 4 (.slice A1 y2.length c1'))
              replace B := hid (B.out.set (cs' := #[.int .i64 10, .int .i64 1, .string S2.nameT, .slice A0 acc.length c0, .slice A1 y2.length c1', .int .i64 (S.t.at_ : Nat)]) 4 (.slice A1 y2.length c1') rfl)
              refine (must_c H4.out.p (⟨#[125]⟩ : ByteArray)).mono ?_
              rintro e w5 ⟨rfl, hN⟩
              obtain ⟨ok5, v5, h5, m5⟩ := H4.out.call hN
              have H5 := hid h5
              replace L := hid (L.out.mv m5)
              replace B := hid (B.out.mv m5)
              replace R := hid (R.out.mv m5)
              clear hN h5 m5 H4
              have n0 := B.out.c (i := 0) (u := .int .i64 10) rfl
              have n1 := B.out.c (i := 1) (u := .int .i64 1) rfl
              have n2 := B.out.c (i := 2) (u := .string S2.nameT) rfl
              have n3 := B.out.c (i := 3) (u := .slice A0 acc.length c0) rfl
              have n4 := B.out.c (i := 4) (u := .slice A1 y2.length c1') rfl
              have n5 := B.out.c (i := 5) (u := .int .i64 (S.t.at_ : Nat)) rfl
              go_wp2_with fail
              clear n0 n1 n2 n3 n4 n5
              refine (put_both H5.out (R.out.le (by have := HBW.out; omega)) (L.out.le HLE.out) HRR.out).mono ?_
              rintro e wz ⟨rfl, hN⟩
              have HN := hid hN
              clear hN
              go_wp2_with fail
              go_ret
              exact ⟨ret_nat rfl, HN.out⟩
      · skip
        rw [if_f hk] at hr
        have hk' : ¬ S2.t.kind = 3 := by simpa using hk
        clear hk
        go_upto_region 7 with fail
        clear hk' c1
        unfold fnT at hr
        obtain ⟨⟨x1, x2⟩, hx, hr2⟩ := Option.bind_eq_some_iff.1 hr
        clear hr
        have hr := hr2
        clear hr2
        dsimp only at hr
        unfold names0 at hx
        obtain ⟨⟨y1, y2, y3⟩, hy, hr2⟩ := Option.bind_eq_some_iff.1 hr
        have HY := hid hy
        clear hr hy
        dsimp only at hr2
        have hr := hr2
        clear hr2
        obtain ⟨hr2, rfl⟩ := one1_some hr
        have HRR := hid hr2
        clear hr hr2
        have HX := hid hx
        clear hx
        go_wp2_with fail
        refine (must_c H2.out.p (⟨#[40]⟩ : ByteArray)).mono ?_
        rintro e w3 ⟨rfl, hN⟩
        obtain ⟨ok3, v3, h3, m3⟩ := H2.out.call hN
        have H3 := hid h3
        replace B := hid (B.out.mv m3)
        clear hN h3 m3 H2
        obtain ⟨S4, eS4⟩ : ∃ S4, S4 = (S2.must (⟨#[40]⟩ : ByteArray)) := ⟨_, rfl⟩
        rw [← eS4] at HX H3
        clear eS4
        go_wp2_with fail
        rcases Bool.eq_false_or_eq_true (S4.is (⟨#[41]⟩ : ByteArray)) with hp | hp
        · skip
          have hx := HX.out
          clear HX
          rw [if_neg (by simp [hp])] at hx
          obtain ⟨rfl, rfl⟩ : [] = x1 ∧ S4 = x2 := by injection hx with hx; injection hx with h1 h2; exact ⟨h1, h2⟩
          clear hx
          have HI := hid (is_hit H3.out.p (⟨#[41]⟩ : ByteArray) hp)
          clear hp
          refine HI.out.mono ?_
          rintro e w' ⟨rfl, rfl⟩
          clear HI
          have R := hid (SR.nil (b + 1) w3 a ok3)
          go_wp2_with fail
          refine (must_c H3.out.p (⟨#[41]⟩ : ByteArray)).mono ?_
          rintro e w4 ⟨rfl, hN⟩
          obtain ⟨ok4, v4, h4, m4⟩ := H3.out.call hN
          have H4 := hid h4
          replace B := hid (B.out.mv m4)
          replace R := hid (R.out.mv m4)
          clear hN h4 m4 H3
          go_wp2_with fail
          refine (must_c H4.out.p (⟨#[123]⟩ : ByteArray)).mono ?_
          rintro e w5 ⟨rfl, hN⟩
          obtain ⟨ok5, v5, h5, m5⟩ := H4.out.call hN
          have H5 := hid h5
          replace B := hid (B.out.mv m5)
          replace R := hid (R.out.mv m5)
          clear hN h5 m5 H4
          go_wp2_with fail
          refine (hG.list HY.out H5.out.p).mono ?_
          rintro e w6 ⟨vk, ok6, v6, rfl, g1, l1⟩
          obtain ⟨A1, c1', rfl⟩ := l1.slice
          obtain ⟨h1, m1⟩ := H5.out.trans g1
          have HBL := hid B.out.lt
          have HLE := hid H5.out.kp.size
          replace B := hid (B.out.mv m1)
          replace R := hid (R.out.mv m1)
          have H6 := hid h1
          have L := hid l1
          clear g1 l1 h1 m1 H5
          have n4 := B.out.c (i := 4) (u := .slice none 0 0) rfl
          have fz4 := B.out.f 4
          go_wp2_with fail
          clear n4 fz4
          replace L := hid (L.out.setB HBL.out 4 (.slice A1 y2.length c1'))
          replace R := hid (R.out.setB (Nat.lt_succ_self _) 4 (.slice A1 y2.length c1'))
          replace H6 := hid (H6.out.setB B.out 4 (.slice A1 y2.length c1'))
          replace B := hid (B.out.set (cs' := #[.int .i64 10, .int .i64 1, .string ⟨#[]⟩, .slice none 0 0, .slice A1 y2.length c1', .int .i64 (S.t.at_ : Nat)]) 4 (.slice A1 y2.length c1') rfl)
          refine (must_c H6.out.p (⟨#[125]⟩ : ByteArray)).mono ?_
          rintro e w7 ⟨rfl, hN⟩
          obtain ⟨ok7, v7, h7, m7⟩ := H6.out.call hN
          have H7 := hid h7
          replace L := hid (L.out.mv m7)
          replace B := hid (B.out.mv m7)
          replace R := hid (R.out.mv m7)
          clear hN h7 m7 H6
          have n0 := B.out.c (i := 0) (u := .int .i64 10) rfl
          have n1 := B.out.c (i := 1) (u := .int .i64 1) rfl
          have n2 := B.out.c (i := 2) (u := .string ⟨#[]⟩) rfl
          have n3 := B.out.c (i := 3) (u := .slice none 0 0) rfl
          have n4 := B.out.c (i := 4) (u := .slice A1 y2.length c1') rfl
          have n5 := B.out.c (i := 5) (u := .int .i64 (S.t.at_ : Nat)) rfl
          go_wp2_with fail
          clear n0 n1 n2 n3 n4 n5
          refine (put_both H7.out (R.out.le (by have := HBW.out; omega)) (L.out.le HLE.out) HRR.out).mono ?_
          rintro e wz ⟨rfl, hN⟩
          have HN := hid hN
          clear hN
          go_wp2_with fail
          go_ret
          exact ⟨ret_nat rfl, HN.out⟩
        · skip
          have hx := HX.out
          clear HX
          rw [if_pos (by simp [hp])] at hx
          have HX := hid hx
          clear hx
          have HI := hid (is_hit H3.out.p (⟨#[41]⟩ : ByteArray) hp)
          clear hp
          refine HI.out.mono ?_
          rintro e w' ⟨rfl, rfl⟩
          clear HI
          go_upto_region 9 with fail
          obtain ⟨Sx, eSx⟩ : ∃ Sx, Sx = S4 := ⟨_, rfl⟩
          rw [← eSx] at HX H3
          clear eSx
          have y3 := B.out.c (i := 3) (u := .slice none 0 0) rfl
          have HD := hid (H3.out.below (Below.refl w3.heap.size w3).drew)
          have BD := hid (B.out.below (Below.refl w3.heap.size w3).drew)
          have RD := hid (SR.nil (b + 1) w3.drew a ok3)
          clear H3 B
          refine wp_region_until [7] (S := (fun w' => w'.cell? ⟨b, 3, none⟩ = some (.slice none 0 0))) (by kernel_rfl) ?_ ?_
          · go_keep
          intro hS
          refine wpAnyU_take (i := 0) (v := (.pointer (some ⟨b, 3, none⟩))) rfl (by kernel_rfl) (fun _ _ _ h => h) (leads_of [[7]] (by kernel_rfl)) (by kernel_rfl) (by kernel_rfl) (by kernel_rfl) (Or.inl ⟨by rfl, ?_⟩) hS ?_
          · intro w' hS'
            have s0 := hS'
            go_simp
          change wpAnyU _ _ _ _ _ _ _ _ (Act.put _ (some 36) _) _
          simp only [Act.put, List.setIfInBounds_toArray, List.set_cons_succ, List.set_cons_zero]
          refine wpAnyU_take (i := 1) (v := (.slice none 0 0)) rfl (by kernel_rfl) (fun _ _ _ h => h) (leads_of [[7]] (by kernel_rfl)) (by kernel_rfl) (by kernel_rfl) (by kernel_rfl) (Or.inl ⟨by rfl, ?_⟩) hS ?_
          · intro w' hS'
            have s0 := hS'
            go_simp
          change wpAnyU _ _ _ _ _ _ _ _ (Act.put _ (some 37) _) _
          simp only [Act.put, List.setIfInBounds_toArray, List.set_cons_succ, List.set_cons_zero]
          refine wpAnyU_take (i := 2) (v := (.pointer (some ⟨a, 0, none⟩))) rfl (by kernel_rfl) (fun _ _ _ h => h) (leads_of [[7]] (by kernel_rfl)) (by kernel_rfl) (by kernel_rfl) (by kernel_rfl) (Or.inl ⟨by rfl, ?_⟩) hS ?_
          · intro w' hS'
            have s0 := hS'
            go_simp
          change wpAnyU _ _ _ _ _ _ _ _ (Act.put _ (some 38) _) _
          simp only [Act.put, List.setIfInBounds_toArray, List.set_cons_succ, List.set_cons_zero]
          refine wpAnyU_all (rs := [3]) (by kernel_rfl) (by simp) ?_
          intro j hj
          obtain rfl := List.mem_singleton.1 hj
          clear hj
          refine wpOp_shut rfl (fun K' HK => ?_)
          refine step_call rfl (f := 70) rfl Try.func70 (by kernel_rfl) rfl #[.pointer (some ⟨a, 0, none⟩)] (by simp only [List.map_toArray, List.map_cons, List.map_nil]; rfl) ?_
          refine (name_c HD.out.p).mono ?_
          rintro e w1 ⟨rfl, hN⟩
          refine ⟨_, rfl, ?_⟩
          obtain ⟨ok1, v1, h1, m1⟩ := HD.out.call hN
          have H1 := hid h1
          have B1 := hid (BD.out.mv m1)
          have R1 := hid (RD.out.mv m1)
          clear hN h1 m1
          have z3 := B1.out.c (i := 3) (u := .slice none 0 0) rfl
          refine HK.out _ _ ⟨.inr ?_, ?_⟩
          · exact z3
          clear HK K'
          have hS := z3
          change wpAnyU _ _ _ _ _ _ _ _ (Act.put _ (some 39) _) _
          simp only [Act.put, List.setIfInBounds_toArray, List.set_cons_succ, List.set_cons_zero]
          refine wpAnyU_all (rs := [4]) (by kernel_rfl) (by simp) ?_
          intro j hj
          obtain rfl := List.mem_singleton.1 hj
          clear hj
          refine wpOp_shut rfl (fun K' HK => ?_)
          go_simp
          have HB6 := hid (below_alloc (Below.refl w1.heap.size w1) (.cells #[.string Sx.nameT] 9))
          refine HK.out _ _ ⟨.inr ?_, ?_⟩
          · exact keepc HB6.out z3
          clear HK K'
          have hS := keepc HB6.out z3
          try simp only [Act.put, List.setIfInBounds_toArray, List.set_cons_succ, List.set_cons_zero]
          refine wpAnyU_all (rs := [5]) (by kernel_rfl) (by simp) ?_
          intro j hj
          obtain rfl := List.mem_singleton.1 hj
          clear hj
          refine wpOp_shut rfl (fun K' HK => ?_)
          refine SR.append_step ?h0q3 (.tmp 37) (.tmp 40) ?h1q3 H1.out R1.out ?c1q3 ?c2q3 ?c3q3 ?c4q3 ?c5q3 ?_
          (case h0q3 => rfl)
          (case h1q3 => rfl)
          (case c1q3 => have := HBW.out; omega)
          (case c2q3 => exact B1.out.lt)
          (case c3q3 => simp)
          (case c4q3 => rfl)
          (case c5q3 => rfl)
          intro val1 w2 h2 r2 hg
          obtain ⟨A2, c2, e2⟩ := r2.slice
          obtain rfl : val1 = .slice A2 1 c2 := e2
          have B2 := hid (B1.out.grown R1.out (Nat.lt_succ_self _) hg)
          have H2 := hid h2
          have R2 := hid r2
          clear hg h2 r2
          have zz3 := B2.out.c (i := 3) (u := .slice none 0 0) rfl
          have fz3 := B2.out.f 3
          refine HK.out _ _ ⟨.inr ?_, ?_⟩
          · exact zz3
          clear HK K'
          have hS := zz3
          change wpAnyU _ _ _ _ _ _ _ _ (Act.put _ (some 41) _) _
          simp only [Act.put, List.setIfInBounds_toArray, List.set_cons_succ, List.set_cons_zero]
          refine wpAnyU_take (i := 6) (v := (.pointer (some ⟨b, 3, none⟩))) rfl (by kernel_rfl) (fun _ _ _ h => h) (leads_of [[7]] (by kernel_rfl)) (by kernel_rfl) (by kernel_rfl) (by kernel_rfl) (Or.inl ⟨by rfl, ?_⟩) hS ?_
          · intro w' hS'
            have s0 := hS'
            go_simp
          change wpAnyU _ _ _ _ _ _ _ _ (Act.put _ (some 42) _) _
          simp only [Act.put, List.setIfInBounds_toArray, List.set_cons_succ, List.set_cons_zero]
          refine wpAnyU_all (rs := [7]) (by kernel_rfl) (by simp) ?_
          intro j hj
          obtain rfl := List.mem_singleton.1 hj
          clear hj
          refine wpOp_shut rfl (fun K' HK => ?_)
          go_simp
          refine HK.out _ _ ⟨.inl (by decide), ?_⟩
          clear HK K'
          refine wpAnyU_done (by kernel_rfl) ?_ _
          have H3 := hid (H2.out.setB B2.out 3 (.slice A2 1 c2))
          have R3 := hid (R2.out.setB (Nat.lt_succ_self _) 3 (.slice A2 1 c2))
          have B3 := hid (B2.out.set (cs' := #[.int .i64 10, .int .i64 1, .string ⟨#[]⟩, .slice A2 1 c2, .slice none 0 0, .int .i64 (S.t.at_ : Nat)]) 3 (.slice A2 1 c2) rfl)
          clear hS HD BD RD H1 B1 R1 HB6 H2 B2 R2 z3 zz3 fz3 y3
          go_wp2_with fail
          go_loopg [] n (fun g wx => ∃ okx vx Sy acc val, g ≤ n ∧ Box (namesL g acc Sy = some (x1, x2)) ∧ Box (At w a ok wx okx vx Sy) ∧ Box (NB w.heap.size wx a okx b #[.int .i64 10, .int .i64 1, .string ⟨#[]⟩, val, .slice none 0 0, .int .i64 (S.t.at_ : Nat)]) ∧ Box (SR (b + 1) wx a okx val acc))
          case atStart => exact ⟨_, _, _, _, _, Nat.le_refl _, HX, H3, B3, R3⟩
          case round =>
            clear HX H3 B3 R3
            obtain ⟨okx, vx, Sy, acc, val, hgk, HX, H0, B, R⟩ := hrel
            have hx := HX.out
            clear HX
            cases gk with
            | zero => cases hx
            | succ gk =>
            unfold namesL at hx
            go_wp2_with fail
            rcases Bool.eq_false_or_eq_true (Sy.hasB (⟨#[44]⟩ : ByteArray)) with hc | hc
            · skip
              rw [if_pos hc] at hx
              split at hx
              rotate_left
              · cases hx
              rename_i hlen
              have HLEN := hid hlen
              have HX := hid hx
              clear hx hlen
              refine (has_hit H0.out.p (⟨#[44]⟩ : ByteArray) hc).mono ?_
              rintro e w1 ⟨rfl, hN⟩
              obtain ⟨ok1, v1, h1, m1⟩ := H0.out.call hN
              have H1 := hid h1
              replace B := hid (B.out.mv m1)
              replace R := hid (R.out.mv m1)
              clear hN h1 m1 H0
              clear hc
              obtain ⟨A0, c0, e0⟩ := R.out.slice
              subst e0
              obtain ⟨Sx, eSx⟩ : ∃ Sx, Sx = Sy.move := ⟨_, rfl⟩
              rw [← eSx] at HX H1
              clear eSx
              go_upto_region 11 with fail
              have y3 := B.out.c (i := 3) (u := .slice A0 acc.length c0) rfl
              have HD := hid (H1.out.below (Below.refl w1.heap.size w1).drew)
              have BD := hid (B.out.below (Below.refl w1.heap.size w1).drew)
              have RD := hid (R.out.below (Below.refl w1.heap.size w1).drew)
              clear H1 B R
              refine wp_region_until [7] (S := (fun w' => w'.cell? ⟨b, 3, none⟩ = some (.slice A0 acc.length c0))) (by kernel_rfl) ?_ ?_
              · go_keep
              intro hS
              refine wpAnyU_take (i := 0) (v := (.pointer (some ⟨b, 3, none⟩))) rfl (by kernel_rfl) (fun _ _ _ h => h) (leads_of [[7]] (by kernel_rfl)) (by kernel_rfl) (by kernel_rfl) (by kernel_rfl) (Or.inl ⟨by rfl, ?_⟩) hS ?_
              · intro w' hS'
                have s0 := hS'
                go_simp
              change wpAnyU _ _ _ _ _ _ _ _ (Act.put _ (some 45) _) _
              simp only [Act.put, List.setIfInBounds_toArray, List.set_cons_succ, List.set_cons_zero]
              refine wpAnyU_take (i := 1) (v := (.slice A0 acc.length c0)) rfl (by kernel_rfl) (fun _ _ _ h => h) (leads_of [[7]] (by kernel_rfl)) (by kernel_rfl) (by kernel_rfl) (by kernel_rfl) (Or.inl ⟨by rfl, ?_⟩) hS ?_
              · intro w' hS'
                have s0 := hS'
                go_simp
              change wpAnyU _ _ _ _ _ _ _ _ (Act.put _ (some 46) _) _
              simp only [Act.put, List.setIfInBounds_toArray, List.set_cons_succ, List.set_cons_zero]
              refine wpAnyU_take (i := 2) (v := (.pointer (some ⟨a, 0, none⟩))) rfl (by kernel_rfl) (fun _ _ _ h => h) (leads_of [[7]] (by kernel_rfl)) (by kernel_rfl) (by kernel_rfl) (by kernel_rfl) (Or.inl ⟨by rfl, ?_⟩) hS ?_
              · intro w' hS'
                have s0 := hS'
                go_simp
              change wpAnyU _ _ _ _ _ _ _ _ (Act.put _ (some 47) _) _
              simp only [Act.put, List.setIfInBounds_toArray, List.set_cons_succ, List.set_cons_zero]
              refine wpAnyU_all (rs := [3]) (by kernel_rfl) (by simp) ?_
              intro j hj
              obtain rfl := List.mem_singleton.1 hj
              clear hj
              refine wpOp_shut rfl (fun K' HK => ?_)
              refine step_call rfl (f := 70) rfl Try.func70 (by kernel_rfl) rfl #[.pointer (some ⟨a, 0, none⟩)] (by simp only [List.map_toArray, List.map_cons, List.map_nil]; rfl) ?_
              refine (name_c HD.out.p).mono ?_
              rintro e w7 ⟨rfl, hN⟩
              refine ⟨_, rfl, ?_⟩
              obtain ⟨ok1, v1, h1, m1⟩ := HD.out.call hN
              have H1 := hid h1
              have B1 := hid (BD.out.mv m1)
              have R1 := hid (RD.out.mv m1)
              clear hN h1 m1
              have z3 := B1.out.c (i := 3) (u := .slice A0 acc.length c0) rfl
              refine HK.out _ _ ⟨.inr ?_, ?_⟩
              · exact z3
              clear HK K'
              have hS := z3
              change wpAnyU _ _ _ _ _ _ _ _ (Act.put _ (some 48) _) _
              simp only [Act.put, List.setIfInBounds_toArray, List.set_cons_succ, List.set_cons_zero]
              refine wpAnyU_all (rs := [4]) (by kernel_rfl) (by simp) ?_
              intro j hj
              obtain rfl := List.mem_singleton.1 hj
              clear hj
              refine wpOp_shut rfl (fun K' HK => ?_)
              go_simp
              have HB6 := hid (below_alloc (Below.refl w7.heap.size w7) (.cells #[.string Sx.nameT] 9))
              refine HK.out _ _ ⟨.inr ?_, ?_⟩
              · exact keepc HB6.out z3
              clear HK K'
              have hS := keepc HB6.out z3
              try simp only [Act.put, List.setIfInBounds_toArray, List.set_cons_succ, List.set_cons_zero]
              refine wpAnyU_all (rs := [5]) (by kernel_rfl) (by simp) ?_
              intro j hj
              obtain rfl := List.mem_singleton.1 hj
              clear hj
              refine wpOp_shut rfl (fun K' HK => ?_)
              refine SR.append_step ?h0q4 (.tmp 46) (.tmp 49) ?h1q4 H1.out R1.out ?c1q4 ?c2q4 ?c3q4 ?c4q4 ?c5q4 ?_
              (case h0q4 => rfl)
              (case h1q4 => rfl)
              (case c1q4 => have := HBW.out; omega)
              (case c2q4 => exact B1.out.lt)
              (case c3q4 => exact HLEN.out)
              (case c4q4 => rfl)
              (case c5q4 => rfl)
              intro val1 w2 h2 r2 hg
              obtain ⟨A2, c2, e2⟩ := r2.slice
              rw [List.length_append, List.length_singleton] at e2
              subst e2
              have B2 := hid (B1.out.grown R1.out (Nat.lt_succ_self _) hg)
              have H2 := hid h2
              have R2 := hid r2
              clear hg h2 r2
              have zz3 := B2.out.c (i := 3) (u := .slice A0 acc.length c0) rfl
              have fz3 := B2.out.f 3
              refine HK.out _ _ ⟨.inr ?_, ?_⟩
              · exact zz3
              clear HK K'
              have hS := zz3
              change wpAnyU _ _ _ _ _ _ _ _ (Act.put _ (some 50) _) _
              simp only [Act.put, List.setIfInBounds_toArray, List.set_cons_succ, List.set_cons_zero]
              refine wpAnyU_take (i := 6) (v := (.pointer (some ⟨b, 3, none⟩))) rfl (by kernel_rfl) (fun _ _ _ h => h) (leads_of [[7]] (by kernel_rfl)) (by kernel_rfl) (by kernel_rfl) (by kernel_rfl) (Or.inl ⟨by rfl, ?_⟩) hS ?_
              · intro w' hS'
                have s0 := hS'
                go_simp
              change wpAnyU _ _ _ _ _ _ _ _ (Act.put _ (some 51) _) _
              simp only [Act.put, List.setIfInBounds_toArray, List.set_cons_succ, List.set_cons_zero]
              refine wpAnyU_all (rs := [7]) (by kernel_rfl) (by simp) ?_
              intro j hj
              obtain rfl := List.mem_singleton.1 hj
              clear hj
              refine wpOp_shut rfl (fun K' HK => ?_)
              go_simp
              refine HK.out _ _ ⟨.inl (by decide), ?_⟩
              clear HK K'
              refine wpAnyU_done (by kernel_rfl) ?_ _
              have H3 := hid (H2.out.setB B2.out 3 (.slice A2 (acc.length + 1) c2))
              have R3 := hid (R2.out.setB (Nat.lt_succ_self _) 3 (.slice A2 (acc.length + 1) c2))
              have B3 := hid (B2.out.set (cs' := #[.int .i64 10, .int .i64 1, .string ⟨#[]⟩, .slice A2 (acc.length + 1) c2, .slice none 0 0, .int .i64 (S.t.at_ : Nat)]) 3 (.slice A2 (acc.length + 1) c2) rfl)
              clear hS HD BD RD H1 B1 R1 HB6 H2 B2 R2 z3 zz3 fz3 y3
              go_wp2_with fail
              go_roundg gk
              case measure => omega
              case rel => exact ⟨_, _, _, _, _, by omega, HX, H3, B3, R3⟩
            · skip
              rw [if_f hc] at hx
              obtain ⟨rfl, rfl⟩ : acc = x1 ∧ Sy = x2 := by injection hx with hx; injection hx with h1 h2; exact ⟨h1, h2⟩
              clear hx
              refine (has_miss H0.out.p (⟨#[44]⟩ : ByteArray) hc).mono ?_
              rintro e w1 ⟨rfl, hN⟩
              obtain ⟨ok1, v1, h1, m1⟩ := H0.out.call hN
              have H1 := hid h1
              replace B := hid (B.out.mv m1)
              replace R := hid (R.out.mv m1)
              clear hN h1 m1 H0
              clear hc
              obtain ⟨A0, c0, e0⟩ := R.out.slice
              subst e0
              go_wp2_with fail
              refine (must_c H1.out.p (⟨#[41]⟩ : ByteArray)).mono ?_
              rintro e w2 ⟨rfl, hN⟩
              obtain ⟨ok2, v2, h2, m2⟩ := H1.out.call hN
              have H2 := hid h2
              replace B := hid (B.out.mv m2)
              replace R := hid (R.out.mv m2)
              clear hN h2 m2 H1
              go_wp2_with fail
              refine (must_c H2.out.p (⟨#[123]⟩ : ByteArray)).mono ?_
              rintro e w3 ⟨rfl, hN⟩
              obtain ⟨ok3, v3, h3, m3⟩ := H2.out.call hN
              have H3 := hid h3
              replace B := hid (B.out.mv m3)
              replace R := hid (R.out.mv m3)
              clear hN h3 m3 H2
              go_wp2_with fail
              refine (hG.list HY.out H3.out.p).mono ?_
              rintro e w4 ⟨vk, ok4, v4, rfl, g1, l1⟩
              obtain ⟨A1, c1', rfl⟩ := l1.slice
              obtain ⟨h1, m1⟩ := H3.out.trans g1
              have HBL := hid B.out.lt
              have HLE := hid H3.out.kp.size
              replace B := hid (B.out.mv m1)
              replace R := hid (R.out.mv m1)
              have H4 := hid h1
              have L := hid l1
              clear g1 l1 h1 m1 H3
              have n4 := B.out.c (i := 4) (u := .slice none 0 0) rfl
              have fz4 := B.out.f 4
              go_wp2_with fail
              clear n4 fz4
              replace L := hid (L.out.setB HBL.out 4 (.slice A1 y2.length c1'))
              replace R := hid (R.out.setB (Nat.lt_succ_self _) 4 (.slice A1 y2.length c1'))
              replace H4 := hid (H4.out.setB B.out 4 (.slice A1 y2.length c1'))
              replace B := hid (B.out.set (cs' := #[.int .i64 10, .int .i64 1, .string ⟨#[]⟩, .slice A0 acc.length c0, .slice A1 y2.length c1', .int .i64 (S.t.at_ : Nat)]) 4 (.slice A1 y2.length c1') rfl)
              refine (must_c H4.out.p (⟨#[125]⟩ : ByteArray)).mono ?_
              rintro e w5 ⟨rfl, hN⟩
              obtain ⟨ok5, v5, h5, m5⟩ := H4.out.call hN
              have H5 := hid h5
              replace L := hid (L.out.mv m5)
              replace B := hid (B.out.mv m5)
              replace R := hid (R.out.mv m5)
              clear hN h5 m5 H4
              have n0 := B.out.c (i := 0) (u := .int .i64 10) rfl
              have n1 := B.out.c (i := 1) (u := .int .i64 1) rfl
              have n2 := B.out.c (i := 2) (u := .string ⟨#[]⟩) rfl
              have n3 := B.out.c (i := 3) (u := .slice A0 acc.length c0) rfl
              have n4 := B.out.c (i := 4) (u := .slice A1 y2.length c1') rfl
              have n5 := B.out.c (i := 5) (u := .int .i64 (S.t.at_ : Nat)) rfl
              go_wp2_with fail
              clear n0 n1 n2 n3 n4 n5
              refine (put_both H5.out (R.out.le (by have := HBW.out; omega)) (L.out.le HLE.out) HRR.out).mono ?_
              rintro e wz ⟨rfl, hN⟩
              have HN := hid hN
              clear hN
              go_wp2_with fail
              go_ret
              exact ⟨ret_nat rfl, HN.out⟩
    · skip
      rw [Bool.true_or, if_pos rfl] at hr
      go_wp2_with fail
      refine (name_c H2.out.p).mono ?_
      rintro e w3 ⟨rfl, hN⟩
      obtain ⟨ok3, v3, h3, m3⟩ := H2.out.call hN
      have H3 := hid h3
      replace B := hid (B.out.mv m3)
      clear hN h3 m3 H2
      have n2 := B.out.c (i := 2) (u := .string ⟨#[]⟩) rfl
      have fz2 := B.out.f 2
      go_upto_region 7 with fail
      clear n2 fz2
      replace H3 := hid (H3.out.setB B.out 2 (.string S2.nameT))
      replace B := hid (B.out.set (cs' := #[.int .i64 10, .int .i64 1, .string S2.nameT, .slice none 0 0, .slice none 0 0, .int .i64 (S.t.at_ : Nat)]) 2 (.string S2.nameT) rfl)
      generalize (w3.setCell ⟨b, 2, none⟩ (.string S2.nameT)) = V3 at H3 B ⊢
      unfold fnT at hr
      obtain ⟨⟨x1, x2⟩, hx, hr2⟩ := Option.bind_eq_some_iff.1 hr
      clear hr
      have hr := hr2
      clear hr2
      dsimp only at hr
      unfold names0 at hx
      obtain ⟨⟨y1, y2, y3⟩, hy, hr2⟩ := Option.bind_eq_some_iff.1 hr
      have HY := hid hy
      clear hr hy
      dsimp only at hr2
      have hr := hr2
      clear hr2
      obtain ⟨hr2, rfl⟩ := one1_some hr
      have HRR := hid hr2
      clear hr hr2
      have HX := hid hx
      clear hx
      go_wp2_with fail
      refine (must_c H3.out.p (⟨#[40]⟩ : ByteArray)).mono ?_
      rintro e w4 ⟨rfl, hN⟩
      obtain ⟨ok4, v4, h4, m4⟩ := H3.out.call hN
      have H4 := hid h4
      replace B := hid (B.out.mv m4)
      clear hN h4 m4 H3
      obtain ⟨S4, eS4⟩ : ∃ S4, S4 = (S2.name.must (⟨#[40]⟩ : ByteArray)) := ⟨_, rfl⟩
      rw [← eS4] at HX H4
      clear eS4
      go_wp2_with fail
      rcases Bool.eq_false_or_eq_true (S4.is (⟨#[41]⟩ : ByteArray)) with hp | hp
      · skip
        have hx := HX.out
        clear HX
        rw [if_neg (by simp [hp])] at hx
        obtain ⟨rfl, rfl⟩ : [] = x1 ∧ S4 = x2 := by injection hx with hx; injection hx with h1 h2; exact ⟨h1, h2⟩
        clear hx
        have HI := hid (is_hit H4.out.p (⟨#[41]⟩ : ByteArray) hp)
        clear hp
        refine HI.out.mono ?_
        rintro e w' ⟨rfl, rfl⟩
        clear HI
        have R := hid (SR.nil (b + 1) w4 a ok4)
        go_wp2_with fail
        refine (must_c H4.out.p (⟨#[41]⟩ : ByteArray)).mono ?_
        rintro e w5 ⟨rfl, hN⟩
        obtain ⟨ok5, v5, h5, m5⟩ := H4.out.call hN
        have H5 := hid h5
        replace B := hid (B.out.mv m5)
        replace R := hid (R.out.mv m5)
        clear hN h5 m5 H4
        go_wp2_with fail
        refine (must_c H5.out.p (⟨#[123]⟩ : ByteArray)).mono ?_
        rintro e w6 ⟨rfl, hN⟩
        obtain ⟨ok6, v6, h6, m6⟩ := H5.out.call hN
        have H6 := hid h6
        replace B := hid (B.out.mv m6)
        replace R := hid (R.out.mv m6)
        clear hN h6 m6 H5
        go_wp2_with fail
        refine (hG.list HY.out H6.out.p).mono ?_
        rintro e w7 ⟨vk, ok7, v7, rfl, g1, l1⟩
        obtain ⟨A1, c1', rfl⟩ := l1.slice
        obtain ⟨h1, m1⟩ := H6.out.trans g1
        have HBL := hid B.out.lt
        have HLE := hid H6.out.kp.size
        replace B := hid (B.out.mv m1)
        replace R := hid (R.out.mv m1)
        have H7 := hid h1
        have L := hid l1
        clear g1 l1 h1 m1 H6
        have n4 := B.out.c (i := 4) (u := .slice none 0 0) rfl
        have fz4 := B.out.f 4
        go_wp2_with fail
        clear n4 fz4
        replace L := hid (L.out.setB HBL.out 4 (.slice A1 y2.length c1'))
        replace R := hid (R.out.setB (Nat.lt_succ_self _) 4 (.slice A1 y2.length c1'))
        replace H7 := hid (H7.out.setB B.out 4 (.slice A1 y2.length c1'))
        replace B := hid (B.out.set (cs' := #[.int .i64 10, .int .i64 1, .string S2.nameT, .slice none 0 0, .slice A1 y2.length c1', .int .i64 (S.t.at_ : Nat)]) 4 (.slice A1 y2.length c1') rfl)
        refine (must_c H7.out.p (⟨#[125]⟩ : ByteArray)).mono ?_
        rintro e w8 ⟨rfl, hN⟩
        obtain ⟨ok8, v8, h8, m8⟩ := H7.out.call hN
        have H8 := hid h8
        replace L := hid (L.out.mv m8)
        replace B := hid (B.out.mv m8)
        replace R := hid (R.out.mv m8)
        clear hN h8 m8 H7
        have n0 := B.out.c (i := 0) (u := .int .i64 10) rfl
        have n1 := B.out.c (i := 1) (u := .int .i64 1) rfl
        have n2 := B.out.c (i := 2) (u := .string S2.nameT) rfl
        have n3 := B.out.c (i := 3) (u := .slice none 0 0) rfl
        have n4 := B.out.c (i := 4) (u := .slice A1 y2.length c1') rfl
        have n5 := B.out.c (i := 5) (u := .int .i64 (S.t.at_ : Nat)) rfl
        go_wp2_with fail
        clear n0 n1 n2 n3 n4 n5
        refine (put_both H8.out (R.out.le (by have := HBW.out; omega)) (L.out.le HLE.out) HRR.out).mono ?_
        rintro e wz ⟨rfl, hN⟩
        have HN := hid hN
        clear hN
        go_wp2_with fail
        go_ret
        exact ⟨ret_nat rfl, HN.out⟩
      · skip
        have hx := HX.out
        clear HX
        rw [if_pos (by simp [hp])] at hx
        have HX := hid hx
        clear hx
        have HI := hid (is_hit H4.out.p (⟨#[41]⟩ : ByteArray) hp)
        clear hp
        refine HI.out.mono ?_
        rintro e w' ⟨rfl, rfl⟩
        clear HI
        go_upto_region 9 with fail
        obtain ⟨Sx, eSx⟩ : ∃ Sx, Sx = S4 := ⟨_, rfl⟩
        rw [← eSx] at HX H4
        clear eSx
        have y3 := B.out.c (i := 3) (u := .slice none 0 0) rfl
        have HD := hid (H4.out.below (Below.refl w4.heap.size w4).drew)
        have BD := hid (B.out.below (Below.refl w4.heap.size w4).drew)
        have RD := hid (SR.nil (b + 1) w4.drew a ok4)
        clear H4 B
        refine wp_region_until [7] (S := (fun w' => w'.cell? ⟨b, 3, none⟩ = some (.slice none 0 0))) (by kernel_rfl) ?_ ?_
        · go_keep
        intro hS
        refine wpAnyU_take (i := 0) (v := (.pointer (some ⟨b, 3, none⟩))) rfl (by kernel_rfl) (fun _ _ _ h => h) (leads_of [[7]] (by kernel_rfl)) (by kernel_rfl) (by kernel_rfl) (by kernel_rfl) (Or.inl ⟨by rfl, ?_⟩) hS ?_
        · intro w' hS'
          have s0 := hS'
          go_simp
        change wpAnyU _ _ _ _ _ _ _ _ (Act.put _ (some 36) _) _
        simp only [Act.put, List.setIfInBounds_toArray, List.set_cons_succ, List.set_cons_zero]
        refine wpAnyU_take (i := 1) (v := (.slice none 0 0)) rfl (by kernel_rfl) (fun _ _ _ h => h) (leads_of [[7]] (by kernel_rfl)) (by kernel_rfl) (by kernel_rfl) (by kernel_rfl) (Or.inl ⟨by rfl, ?_⟩) hS ?_
        · intro w' hS'
          have s0 := hS'
          go_simp
        change wpAnyU _ _ _ _ _ _ _ _ (Act.put _ (some 37) _) _
        simp only [Act.put, List.setIfInBounds_toArray, List.set_cons_succ, List.set_cons_zero]
        refine wpAnyU_take (i := 2) (v := (.pointer (some ⟨a, 0, none⟩))) rfl (by kernel_rfl) (fun _ _ _ h => h) (leads_of [[7]] (by kernel_rfl)) (by kernel_rfl) (by kernel_rfl) (by kernel_rfl) (Or.inl ⟨by rfl, ?_⟩) hS ?_
        · intro w' hS'
          have s0 := hS'
          go_simp
        change wpAnyU _ _ _ _ _ _ _ _ (Act.put _ (some 38) _) _
        simp only [Act.put, List.setIfInBounds_toArray, List.set_cons_succ, List.set_cons_zero]
        refine wpAnyU_all (rs := [3]) (by kernel_rfl) (by simp) ?_
        intro j hj
        obtain rfl := List.mem_singleton.1 hj
        clear hj
        refine wpOp_shut rfl (fun K' HK => ?_)
        refine step_call rfl (f := 70) rfl Try.func70 (by kernel_rfl) rfl #[.pointer (some ⟨a, 0, none⟩)] (by simp only [List.map_toArray, List.map_cons, List.map_nil]; rfl) ?_
        refine (name_c HD.out.p).mono ?_
        rintro e w1 ⟨rfl, hN⟩
        refine ⟨_, rfl, ?_⟩
        obtain ⟨ok1, v1, h1, m1⟩ := HD.out.call hN
        have H1 := hid h1
        have B1 := hid (BD.out.mv m1)
        have R1 := hid (RD.out.mv m1)
        clear hN h1 m1
        have z3 := B1.out.c (i := 3) (u := .slice none 0 0) rfl
        refine HK.out _ _ ⟨.inr ?_, ?_⟩
        · exact z3
        clear HK K'
        have hS := z3
        change wpAnyU _ _ _ _ _ _ _ _ (Act.put _ (some 39) _) _
        simp only [Act.put, List.setIfInBounds_toArray, List.set_cons_succ, List.set_cons_zero]
        refine wpAnyU_all (rs := [4]) (by kernel_rfl) (by simp) ?_
        intro j hj
        obtain rfl := List.mem_singleton.1 hj
        clear hj
        refine wpOp_shut rfl (fun K' HK => ?_)
        go_simp
        have HB6 := hid (below_alloc (Below.refl w1.heap.size w1) (.cells #[.string Sx.nameT] 9))
        refine HK.out _ _ ⟨.inr ?_, ?_⟩
        · exact keepc HB6.out z3
        clear HK K'
        have hS := keepc HB6.out z3
        try simp only [Act.put, List.setIfInBounds_toArray, List.set_cons_succ, List.set_cons_zero]
        refine wpAnyU_all (rs := [5]) (by kernel_rfl) (by simp) ?_
        intro j hj
        obtain rfl := List.mem_singleton.1 hj
        clear hj
        refine wpOp_shut rfl (fun K' HK => ?_)
        refine SR.append_step ?h0q5 (.tmp 37) (.tmp 40) ?h1q5 H1.out R1.out ?c1q5 ?c2q5 ?c3q5 ?c4q5 ?c5q5 ?_
        (case h0q5 => rfl)
        (case h1q5 => rfl)
        (case c1q5 => have := HBW.out; omega)
        (case c2q5 => exact B1.out.lt)
        (case c3q5 => simp)
        (case c4q5 => rfl)
        (case c5q5 => rfl)
        intro val1 w2 h2 r2 hg
        obtain ⟨A2, c2, e2⟩ := r2.slice
        obtain rfl : val1 = .slice A2 1 c2 := e2
        have B2 := hid (B1.out.grown R1.out (Nat.lt_succ_self _) hg)
        have H2 := hid h2
        have R2 := hid r2
        clear hg h2 r2
        have zz3 := B2.out.c (i := 3) (u := .slice none 0 0) rfl
        have fz3 := B2.out.f 3
        refine HK.out _ _ ⟨.inr ?_, ?_⟩
        · exact zz3
        clear HK K'
        have hS := zz3
        change wpAnyU _ _ _ _ _ _ _ _ (Act.put _ (some 41) _) _
        simp only [Act.put, List.setIfInBounds_toArray, List.set_cons_succ, List.set_cons_zero]
        refine wpAnyU_take (i := 6) (v := (.pointer (some ⟨b, 3, none⟩))) rfl (by kernel_rfl) (fun _ _ _ h => h) (leads_of [[7]] (by kernel_rfl)) (by kernel_rfl) (by kernel_rfl) (by kernel_rfl) (Or.inl ⟨by rfl, ?_⟩) hS ?_
        · intro w' hS'
          have s0 := hS'
          go_simp
        change wpAnyU _ _ _ _ _ _ _ _ (Act.put _ (some 42) _) _
        simp only [Act.put, List.setIfInBounds_toArray, List.set_cons_succ, List.set_cons_zero]
        refine wpAnyU_all (rs := [7]) (by kernel_rfl) (by simp) ?_
        intro j hj
        obtain rfl := List.mem_singleton.1 hj
        clear hj
        refine wpOp_shut rfl (fun K' HK => ?_)
        go_simp
        refine HK.out _ _ ⟨.inl (by decide), ?_⟩
        clear HK K'
        refine wpAnyU_done (by kernel_rfl) ?_ _
        have H3 := hid (H2.out.setB B2.out 3 (.slice A2 1 c2))
        have R3 := hid (R2.out.setB (Nat.lt_succ_self _) 3 (.slice A2 1 c2))
        have B3 := hid (B2.out.set (cs' := #[.int .i64 10, .int .i64 1, .string S2.nameT, .slice A2 1 c2, .slice none 0 0, .int .i64 (S.t.at_ : Nat)]) 3 (.slice A2 1 c2) rfl)
        clear hS HD BD RD H1 B1 R1 HB6 H2 B2 R2 z3 zz3 fz3 y3
        go_wp2_with fail
        go_loopg [] n (fun g wx => ∃ okx vx Sy acc val, g ≤ n ∧ Box (namesL g acc Sy = some (x1, x2)) ∧ Box (At w a ok wx okx vx Sy) ∧ Box (NB w.heap.size wx a okx b #[.int .i64 10, .int .i64 1, .string S2.nameT, val, .slice none 0 0, .int .i64 (S.t.at_ : Nat)]) ∧ Box (SR (b + 1) wx a okx val acc))
        case atStart => exact ⟨_, _, _, _, _, Nat.le_refl _, HX, H3, B3, R3⟩
        case round =>
          clear HX H3 B3 R3
          obtain ⟨okx, vx, Sy, acc, val, hgk, HX, H0, B, R⟩ := hrel
          have hx := HX.out
          clear HX
          cases gk with
          | zero => cases hx
          | succ gk =>
          unfold namesL at hx
          go_wp2_with fail
          rcases Bool.eq_false_or_eq_true (Sy.hasB (⟨#[44]⟩ : ByteArray)) with hc | hc
          · skip
            rw [if_pos hc] at hx
            split at hx
            rotate_left
            · cases hx
            rename_i hlen
            have HLEN := hid hlen
            have HX := hid hx
            clear hx hlen
            refine (has_hit H0.out.p (⟨#[44]⟩ : ByteArray) hc).mono ?_
            rintro e w1 ⟨rfl, hN⟩
            obtain ⟨ok1, v1, h1, m1⟩ := H0.out.call hN
            have H1 := hid h1
            replace B := hid (B.out.mv m1)
            replace R := hid (R.out.mv m1)
            clear hN h1 m1 H0
            clear hc
            obtain ⟨A0, c0, e0⟩ := R.out.slice
            subst e0
            obtain ⟨Sx, eSx⟩ : ∃ Sx, Sx = Sy.move := ⟨_, rfl⟩
            rw [← eSx] at HX H1
            clear eSx
            go_upto_region 11 with fail
            have y3 := B.out.c (i := 3) (u := .slice A0 acc.length c0) rfl
            have HD := hid (H1.out.below (Below.refl w1.heap.size w1).drew)
            have BD := hid (B.out.below (Below.refl w1.heap.size w1).drew)
            have RD := hid (R.out.below (Below.refl w1.heap.size w1).drew)
            clear H1 B R
            refine wp_region_until [7] (S := (fun w' => w'.cell? ⟨b, 3, none⟩ = some (.slice A0 acc.length c0))) (by kernel_rfl) ?_ ?_
            · go_keep
            intro hS
            refine wpAnyU_take (i := 0) (v := (.pointer (some ⟨b, 3, none⟩))) rfl (by kernel_rfl) (fun _ _ _ h => h) (leads_of [[7]] (by kernel_rfl)) (by kernel_rfl) (by kernel_rfl) (by kernel_rfl) (Or.inl ⟨by rfl, ?_⟩) hS ?_
            · intro w' hS'
              have s0 := hS'
              go_simp
            change wpAnyU _ _ _ _ _ _ _ _ (Act.put _ (some 45) _) _
            simp only [Act.put, List.setIfInBounds_toArray, List.set_cons_succ, List.set_cons_zero]
            refine wpAnyU_take (i := 1) (v := (.slice A0 acc.length c0)) rfl (by kernel_rfl) (fun _ _ _ h => h) (leads_of [[7]] (by kernel_rfl)) (by kernel_rfl) (by kernel_rfl) (by kernel_rfl) (Or.inl ⟨by rfl, ?_⟩) hS ?_
            · intro w' hS'
              have s0 := hS'
              go_simp
            change wpAnyU _ _ _ _ _ _ _ _ (Act.put _ (some 46) _) _
            simp only [Act.put, List.setIfInBounds_toArray, List.set_cons_succ, List.set_cons_zero]
            refine wpAnyU_take (i := 2) (v := (.pointer (some ⟨a, 0, none⟩))) rfl (by kernel_rfl) (fun _ _ _ h => h) (leads_of [[7]] (by kernel_rfl)) (by kernel_rfl) (by kernel_rfl) (by kernel_rfl) (Or.inl ⟨by rfl, ?_⟩) hS ?_
            · intro w' hS'
              have s0 := hS'
              go_simp
            change wpAnyU _ _ _ _ _ _ _ _ (Act.put _ (some 47) _) _
            simp only [Act.put, List.setIfInBounds_toArray, List.set_cons_succ, List.set_cons_zero]
            refine wpAnyU_all (rs := [3]) (by kernel_rfl) (by simp) ?_
            intro j hj
            obtain rfl := List.mem_singleton.1 hj
            clear hj
            refine wpOp_shut rfl (fun K' HK => ?_)
            refine step_call rfl (f := 70) rfl Try.func70 (by kernel_rfl) rfl #[.pointer (some ⟨a, 0, none⟩)] (by simp only [List.map_toArray, List.map_cons, List.map_nil]; rfl) ?_
            refine (name_c HD.out.p).mono ?_
            rintro e w7 ⟨rfl, hN⟩
            refine ⟨_, rfl, ?_⟩
            obtain ⟨ok1, v1, h1, m1⟩ := HD.out.call hN
            have H1 := hid h1
            have B1 := hid (BD.out.mv m1)
            have R1 := hid (RD.out.mv m1)
            clear hN h1 m1
            have z3 := B1.out.c (i := 3) (u := .slice A0 acc.length c0) rfl
            refine HK.out _ _ ⟨.inr ?_, ?_⟩
            · exact z3
            clear HK K'
            have hS := z3
            change wpAnyU _ _ _ _ _ _ _ _ (Act.put _ (some 48) _) _
            simp only [Act.put, List.setIfInBounds_toArray, List.set_cons_succ, List.set_cons_zero]
            refine wpAnyU_all (rs := [4]) (by kernel_rfl) (by simp) ?_
            intro j hj
            obtain rfl := List.mem_singleton.1 hj
            clear hj
            refine wpOp_shut rfl (fun K' HK => ?_)
            go_simp
            have HB6 := hid (below_alloc (Below.refl w7.heap.size w7) (.cells #[.string Sx.nameT] 9))
            refine HK.out _ _ ⟨.inr ?_, ?_⟩
            · exact keepc HB6.out z3
            clear HK K'
            have hS := keepc HB6.out z3
            try simp only [Act.put, List.setIfInBounds_toArray, List.set_cons_succ, List.set_cons_zero]
            refine wpAnyU_all (rs := [5]) (by kernel_rfl) (by simp) ?_
            intro j hj
            obtain rfl := List.mem_singleton.1 hj
            clear hj
            refine wpOp_shut rfl (fun K' HK => ?_)
            refine SR.append_step ?h0q6 (.tmp 46) (.tmp 49) ?h1q6 H1.out R1.out ?c1q6 ?c2q6 ?c3q6 ?c4q6 ?c5q6 ?_
            (case h0q6 => rfl)
            (case h1q6 => rfl)
            (case c1q6 => have := HBW.out; omega)
            (case c2q6 => exact B1.out.lt)
            (case c3q6 => exact HLEN.out)
            (case c4q6 => rfl)
            (case c5q6 => rfl)
            intro val1 w2 h2 r2 hg
            obtain ⟨A2, c2, e2⟩ := r2.slice
            rw [List.length_append, List.length_singleton] at e2
            subst e2
            have B2 := hid (B1.out.grown R1.out (Nat.lt_succ_self _) hg)
            have H2 := hid h2
            have R2 := hid r2
            clear hg h2 r2
            have zz3 := B2.out.c (i := 3) (u := .slice A0 acc.length c0) rfl
            have fz3 := B2.out.f 3
            refine HK.out _ _ ⟨.inr ?_, ?_⟩
            · exact zz3
            clear HK K'
            have hS := zz3
            change wpAnyU _ _ _ _ _ _ _ _ (Act.put _ (some 50) _) _
            simp only [Act.put, List.setIfInBounds_toArray, List.set_cons_succ, List.set_cons_zero]
            refine wpAnyU_take (i := 6) (v := (.pointer (some ⟨b, 3, none⟩))) rfl (by kernel_rfl) (fun _ _ _ h => h) (leads_of [[7]] (by kernel_rfl)) (by kernel_rfl) (by kernel_rfl) (by kernel_rfl) (Or.inl ⟨by rfl, ?_⟩) hS ?_
            · intro w' hS'
              have s0 := hS'
              go_simp
            change wpAnyU _ _ _ _ _ _ _ _ (Act.put _ (some 51) _) _
            simp only [Act.put, List.setIfInBounds_toArray, List.set_cons_succ, List.set_cons_zero]
            refine wpAnyU_all (rs := [7]) (by kernel_rfl) (by simp) ?_
            intro j hj
            obtain rfl := List.mem_singleton.1 hj
            clear hj
            refine wpOp_shut rfl (fun K' HK => ?_)
            go_simp
            refine HK.out _ _ ⟨.inl (by decide), ?_⟩
            clear HK K'
            refine wpAnyU_done (by kernel_rfl) ?_ _
            have H3 := hid (H2.out.setB B2.out 3 (.slice A2 (acc.length + 1) c2))
            have R3 := hid (R2.out.setB (Nat.lt_succ_self _) 3 (.slice A2 (acc.length + 1) c2))
            have B3 := hid (B2.out.set (cs' := #[.int .i64 10, .int .i64 1, .string S2.nameT, .slice A2 (acc.length + 1) c2, .slice none 0 0, .int .i64 (S.t.at_ : Nat)]) 3 (.slice A2 (acc.length + 1) c2) rfl)
            clear hS HD BD RD H1 B1 R1 HB6 H2 B2 R2 z3 zz3 fz3 y3
            go_wp2_with fail
            go_roundg gk
            case measure => omega
            case rel => exact ⟨_, _, _, _, _, by omega, HX, H3, B3, R3⟩
          · skip
            rw [if_f hc] at hx
            obtain ⟨rfl, rfl⟩ : acc = x1 ∧ Sy = x2 := by injection hx with hx; injection hx with h1 h2; exact ⟨h1, h2⟩
            clear hx
            refine (has_miss H0.out.p (⟨#[44]⟩ : ByteArray) hc).mono ?_
            rintro e w1 ⟨rfl, hN⟩
            obtain ⟨ok1, v1, h1, m1⟩ := H0.out.call hN
            have H1 := hid h1
            replace B := hid (B.out.mv m1)
            replace R := hid (R.out.mv m1)
            clear hN h1 m1 H0
            clear hc
            obtain ⟨A0, c0, e0⟩ := R.out.slice
            subst e0
            go_wp2_with fail
            refine (must_c H1.out.p (⟨#[41]⟩ : ByteArray)).mono ?_
            rintro e w2 ⟨rfl, hN⟩
            obtain ⟨ok2, v2, h2, m2⟩ := H1.out.call hN
            have H2 := hid h2
            replace B := hid (B.out.mv m2)
            replace R := hid (R.out.mv m2)
            clear hN h2 m2 H1
            go_wp2_with fail
            refine (must_c H2.out.p (⟨#[123]⟩ : ByteArray)).mono ?_
            rintro e w3 ⟨rfl, hN⟩
            obtain ⟨ok3, v3, h3, m3⟩ := H2.out.call hN
            have H3 := hid h3
            replace B := hid (B.out.mv m3)
            replace R := hid (R.out.mv m3)
            clear hN h3 m3 H2
            go_wp2_with fail
            refine (hG.list HY.out H3.out.p).mono ?_
            rintro e w4 ⟨vk, ok4, v4, rfl, g1, l1⟩
            obtain ⟨A1, c1', rfl⟩ := l1.slice
            obtain ⟨h1, m1⟩ := H3.out.trans g1
            have HBL := hid B.out.lt
            have HLE := hid H3.out.kp.size
            replace B := hid (B.out.mv m1)
            replace R := hid (R.out.mv m1)
            have H4 := hid h1
            have L := hid l1
            clear g1 l1 h1 m1 H3
            have n4 := B.out.c (i := 4) (u := .slice none 0 0) rfl
            have fz4 := B.out.f 4
            go_wp2_with fail
            clear n4 fz4
            replace L := hid (L.out.setB HBL.out 4 (.slice A1 y2.length c1'))
            replace R := hid (R.out.setB (Nat.lt_succ_self _) 4 (.slice A1 y2.length c1'))
            replace H4 := hid (H4.out.setB B.out 4 (.slice A1 y2.length c1'))
            replace B := hid (B.out.set (cs' := #[.int .i64 10, .int .i64 1, .string S2.nameT, .slice A0 acc.length c0, .slice A1 y2.length c1', .int .i64 (S.t.at_ : Nat)]) 4 (.slice A1 y2.length c1') rfl)
            refine (must_c H4.out.p (⟨#[125]⟩ : ByteArray)).mono ?_
            rintro e w5 ⟨rfl, hN⟩
            obtain ⟨ok5, v5, h5, m5⟩ := H4.out.call hN
            have H5 := hid h5
            replace L := hid (L.out.mv m5)
            replace B := hid (B.out.mv m5)
            replace R := hid (R.out.mv m5)
            clear hN h5 m5 H4
            have n0 := B.out.c (i := 0) (u := .int .i64 10) rfl
            have n1 := B.out.c (i := 1) (u := .int .i64 1) rfl
            have n2 := B.out.c (i := 2) (u := .string S2.nameT) rfl
            have n3 := B.out.c (i := 3) (u := .slice A0 acc.length c0) rfl
            have n4 := B.out.c (i := 4) (u := .slice A1 y2.length c1') rfl
            have n5 := B.out.c (i := 5) (u := .int .i64 (S.t.at_ : Nat)) rfl
            go_wp2_with fail
            clear n0 n1 n2 n3 n4 n5
            refine (put_both H5.out (R.out.le (by have := HBW.out; omega)) (L.out.le HLE.out) HRR.out).mono ?_
            rintro e wz ⟨rfl, hN⟩
            have HN := hid hN
            clear hN
            go_wp2_with fail
            go_ret
            exact ⟨ret_nat rfl, HN.out⟩
  · skip
    have hr := HR.out
    clear HR
    simp only [Ps.has, hb, if_false, Bool.false_eq_true] at hr
    refine (has_miss H1.out.p (⟨#[42]⟩ : ByteArray) hb).mono ?_
    rintro e w2 ⟨rfl, hN⟩
    obtain ⟨ok2, v2, h2, m2⟩ := H1.out.call hN
    have H2 := hid h2
    replace B := hid (B.out.mv m2)
    clear hN h2 m2 H1
    clear hb
    obtain ⟨S2, eS2⟩ : ∃ S2, S2 = (S.must (⟨#[102, 117, 110, 99, 116, 105, 111, 110]⟩ : ByteArray)) := ⟨_, rfl⟩
    rw [← eS2] at hr H2
    clear eS2
    go_upto_region 5 with fail
    cases named
    · skip
      rw [Bool.false_or] at hr
      have c1 := H2.out.p.c1
      rcases Bool.eq_false_or_eq_true (decide (S2.t.kind = 3)) with hk | hk
      · skip
        rw [if_pos hk] at hr
        have hk' : S2.t.kind = 3 := by simpa using hk
        rw [hk'] at c1
        clear hk hk'
        go_wp2_with fail
        clear c1
        refine (name_c H2.out.p).mono ?_
        rintro e w3 ⟨rfl, hN⟩
        obtain ⟨ok3, v3, h3, m3⟩ := H2.out.call hN
        have H3 := hid h3
        replace B := hid (B.out.mv m3)
        clear hN h3 m3 H2
        have n2 := B.out.c (i := 2) (u := .string ⟨#[]⟩) rfl
        have fz2 := B.out.f 2
        go_upto_region 7 with fail
        clear n2 fz2
        replace H3 := hid (H3.out.setB B.out 2 (.string S2.nameT))
        replace B := hid (B.out.set (cs' := #[.int .i64 10, .int .i64 0, .string S2.nameT, .slice none 0 0, .slice none 0 0, .int .i64 (S.t.at_ : Nat)]) 2 (.string S2.nameT) rfl)
        generalize (w3.setCell ⟨b, 2, none⟩ (.string S2.nameT)) = V3 at H3 B ⊢
        unfold fnT at hr
        obtain ⟨⟨x1, x2⟩, hx, hr2⟩ := Option.bind_eq_some_iff.1 hr
        clear hr
        have hr := hr2
        clear hr2
        dsimp only at hr
        unfold names0 at hx
        obtain ⟨⟨y1, y2, y3⟩, hy, hr2⟩ := Option.bind_eq_some_iff.1 hr
        have HY := hid hy
        clear hr hy
        dsimp only at hr2
        have hr := hr2
        clear hr2
        obtain ⟨hr2, rfl⟩ := one1_some hr
        have HRR := hid hr2
        clear hr hr2
        have HX := hid hx
        clear hx
        go_wp2_with fail
        refine (must_c H3.out.p (⟨#[40]⟩ : ByteArray)).mono ?_
        rintro e w4 ⟨rfl, hN⟩
        obtain ⟨ok4, v4, h4, m4⟩ := H3.out.call hN
        have H4 := hid h4
        replace B := hid (B.out.mv m4)
        clear hN h4 m4 H3
        obtain ⟨S4, eS4⟩ : ∃ S4, S4 = (S2.name.must (⟨#[40]⟩ : ByteArray)) := ⟨_, rfl⟩
        rw [← eS4] at HX H4
        clear eS4
        go_wp2_with fail
        rcases Bool.eq_false_or_eq_true (S4.is (⟨#[41]⟩ : ByteArray)) with hp | hp
        · skip
          have hx := HX.out
          clear HX
          rw [if_neg (by simp [hp])] at hx
          obtain ⟨rfl, rfl⟩ : [] = x1 ∧ S4 = x2 := by injection hx with hx; injection hx with h1 h2; exact ⟨h1, h2⟩
          clear hx
          have HI := hid (is_hit H4.out.p (⟨#[41]⟩ : ByteArray) hp)
          clear hp
          refine HI.out.mono ?_
          rintro e w' ⟨rfl, rfl⟩
          clear HI
          have R := hid (SR.nil (b + 1) w4 a ok4)
          go_wp2_with fail
          refine (must_c H4.out.p (⟨#[41]⟩ : ByteArray)).mono ?_
          rintro e w5 ⟨rfl, hN⟩
          obtain ⟨ok5, v5, h5, m5⟩ := H4.out.call hN
          have H5 := hid h5
          replace B := hid (B.out.mv m5)
          replace R := hid (R.out.mv m5)
          clear hN h5 m5 H4
          go_wp2_with fail
          refine (must_c H5.out.p (⟨#[123]⟩ : ByteArray)).mono ?_
          rintro e w6 ⟨rfl, hN⟩
          obtain ⟨ok6, v6, h6, m6⟩ := H5.out.call hN
          have H6 := hid h6
          replace B := hid (B.out.mv m6)
          replace R := hid (R.out.mv m6)
          clear hN h6 m6 H5
          go_wp2_with fail
          refine (hG.list HY.out H6.out.p).mono ?_
          rintro e w7 ⟨vk, ok7, v7, rfl, g1, l1⟩
          obtain ⟨A1, c1', rfl⟩ := l1.slice
          obtain ⟨h1, m1⟩ := H6.out.trans g1
          have HBL := hid B.out.lt
          have HLE := hid H6.out.kp.size
          replace B := hid (B.out.mv m1)
          replace R := hid (R.out.mv m1)
          have H7 := hid h1
          have L := hid l1
          clear g1 l1 h1 m1 H6
          have n4 := B.out.c (i := 4) (u := .slice none 0 0) rfl
          have fz4 := B.out.f 4
          go_wp2_with fail
          clear n4 fz4
          replace L := hid (L.out.setB HBL.out 4 (.slice A1 y2.length c1'))
          replace R := hid (R.out.setB (Nat.lt_succ_self _) 4 (.slice A1 y2.length c1'))
          replace H7 := hid (H7.out.setB B.out 4 (.slice A1 y2.length c1'))
          replace B := hid (B.out.set (cs' := #[.int .i64 10, .int .i64 0, .string S2.nameT, .slice none 0 0, .slice A1 y2.length c1', .int .i64 (S.t.at_ : Nat)]) 4 (.slice A1 y2.length c1') rfl)
          refine (must_c H7.out.p (⟨#[125]⟩ : ByteArray)).mono ?_
          rintro e w8 ⟨rfl, hN⟩
          obtain ⟨ok8, v8, h8, m8⟩ := H7.out.call hN
          have H8 := hid h8
          replace L := hid (L.out.mv m8)
          replace B := hid (B.out.mv m8)
          replace R := hid (R.out.mv m8)
          clear hN h8 m8 H7
          have n0 := B.out.c (i := 0) (u := .int .i64 10) rfl
          have n1 := B.out.c (i := 1) (u := .int .i64 0) rfl
          have n2 := B.out.c (i := 2) (u := .string S2.nameT) rfl
          have n3 := B.out.c (i := 3) (u := .slice none 0 0) rfl
          have n4 := B.out.c (i := 4) (u := .slice A1 y2.length c1') rfl
          have n5 := B.out.c (i := 5) (u := .int .i64 (S.t.at_ : Nat)) rfl
          go_wp2_with fail
          clear n0 n1 n2 n3 n4 n5
          refine (put_both H8.out (R.out.le (by have := HBW.out; omega)) (L.out.le HLE.out) HRR.out).mono ?_
          rintro e wz ⟨rfl, hN⟩
          have HN := hid hN
          clear hN
          go_wp2_with fail
          go_ret
          exact ⟨ret_nat rfl, HN.out⟩
        · skip
          have hx := HX.out
          clear HX
          rw [if_pos (by simp [hp])] at hx
          have HX := hid hx
          clear hx
          have HI := hid (is_hit H4.out.p (⟨#[41]⟩ : ByteArray) hp)
          clear hp
          refine HI.out.mono ?_
          rintro e w' ⟨rfl, rfl⟩
          clear HI
          go_upto_region 9 with fail
          obtain ⟨Sx, eSx⟩ : ∃ Sx, Sx = S4 := ⟨_, rfl⟩
          rw [← eSx] at HX H4
          clear eSx
          have y3 := B.out.c (i := 3) (u := .slice none 0 0) rfl
          have HD := hid (H4.out.below (Below.refl w4.heap.size w4).drew)
          have BD := hid (B.out.below (Below.refl w4.heap.size w4).drew)
          have RD := hid (SR.nil (b + 1) w4.drew a ok4)
          clear H4 B
          refine wp_region_until [7] (S := (fun w' => w'.cell? ⟨b, 3, none⟩ = some (.slice none 0 0))) (by kernel_rfl) ?_ ?_
          · go_keep
          intro hS
          refine wpAnyU_take (i := 0) (v := (.pointer (some ⟨b, 3, none⟩))) rfl (by kernel_rfl) (fun _ _ _ h => h) (leads_of [[7]] (by kernel_rfl)) (by kernel_rfl) (by kernel_rfl) (by kernel_rfl) (Or.inl ⟨by rfl, ?_⟩) hS ?_
          · intro w' hS'
            have s0 := hS'
            go_simp
          change wpAnyU _ _ _ _ _ _ _ _ (Act.put _ (some 36) _) _
          simp only [Act.put, List.setIfInBounds_toArray, List.set_cons_succ, List.set_cons_zero]
          refine wpAnyU_take (i := 1) (v := (.slice none 0 0)) rfl (by kernel_rfl) (fun _ _ _ h => h) (leads_of [[7]] (by kernel_rfl)) (by kernel_rfl) (by kernel_rfl) (by kernel_rfl) (Or.inl ⟨by rfl, ?_⟩) hS ?_
          · intro w' hS'
            have s0 := hS'
            go_simp
          change wpAnyU _ _ _ _ _ _ _ _ (Act.put _ (some 37) _) _
          simp only [Act.put, List.setIfInBounds_toArray, List.set_cons_succ, List.set_cons_zero]
          refine wpAnyU_take (i := 2) (v := (.pointer (some ⟨a, 0, none⟩))) rfl (by kernel_rfl) (fun _ _ _ h => h) (leads_of [[7]] (by kernel_rfl)) (by kernel_rfl) (by kernel_rfl) (by kernel_rfl) (Or.inl ⟨by rfl, ?_⟩) hS ?_
          · intro w' hS'
            have s0 := hS'
            go_simp
          change wpAnyU _ _ _ _ _ _ _ _ (Act.put _ (some 38) _) _
          simp only [Act.put, List.setIfInBounds_toArray, List.set_cons_succ, List.set_cons_zero]
          refine wpAnyU_all (rs := [3]) (by kernel_rfl) (by simp) ?_
          intro j hj
          obtain rfl := List.mem_singleton.1 hj
          clear hj
          refine wpOp_shut rfl (fun K' HK => ?_)
          refine step_call rfl (f := 70) rfl Try.func70 (by kernel_rfl) rfl #[.pointer (some ⟨a, 0, none⟩)] (by simp only [List.map_toArray, List.map_cons, List.map_nil]; rfl) ?_
          refine (name_c HD.out.p).mono ?_
          rintro e w1 ⟨rfl, hN⟩
          refine ⟨_, rfl, ?_⟩
          obtain ⟨ok1, v1, h1, m1⟩ := HD.out.call hN
          have H1 := hid h1
          have B1 := hid (BD.out.mv m1)
          have R1 := hid (RD.out.mv m1)
          clear hN h1 m1
          have z3 := B1.out.c (i := 3) (u := .slice none 0 0) rfl
          refine HK.out _ _ ⟨.inr ?_, ?_⟩
          · exact z3
          clear HK K'
          have hS := z3
          change wpAnyU _ _ _ _ _ _ _ _ (Act.put _ (some 39) _) _
          simp only [Act.put, List.setIfInBounds_toArray, List.set_cons_succ, List.set_cons_zero]
          refine wpAnyU_all (rs := [4]) (by kernel_rfl) (by simp) ?_
          intro j hj
          obtain rfl := List.mem_singleton.1 hj
          clear hj
          refine wpOp_shut rfl (fun K' HK => ?_)
          go_simp
          have HB6 := hid (below_alloc (Below.refl w1.heap.size w1) (.cells #[.string Sx.nameT] 9))
          refine HK.out _ _ ⟨.inr ?_, ?_⟩
          · exact keepc HB6.out z3
          clear HK K'
          have hS := keepc HB6.out z3
          try simp only [Act.put, List.setIfInBounds_toArray, List.set_cons_succ, List.set_cons_zero]
          refine wpAnyU_all (rs := [5]) (by kernel_rfl) (by simp) ?_
          intro j hj
          obtain rfl := List.mem_singleton.1 hj
          clear hj
          refine wpOp_shut rfl (fun K' HK => ?_)
          refine SR.append_step ?h0q7 (.tmp 37) (.tmp 40) ?h1q7 H1.out R1.out ?c1q7 ?c2q7 ?c3q7 ?c4q7 ?c5q7 ?_
          (case h0q7 => rfl)
          (case h1q7 => rfl)
          (case c1q7 => have := HBW.out; omega)
          (case c2q7 => exact B1.out.lt)
          (case c3q7 => simp)
          (case c4q7 => rfl)
          (case c5q7 => rfl)
          intro val1 w2 h2 r2 hg
          obtain ⟨A2, c2, e2⟩ := r2.slice
          obtain rfl : val1 = .slice A2 1 c2 := e2
          have B2 := hid (B1.out.grown R1.out (Nat.lt_succ_self _) hg)
          have H2 := hid h2
          have R2 := hid r2
          clear hg h2 r2
          have zz3 := B2.out.c (i := 3) (u := .slice none 0 0) rfl
          have fz3 := B2.out.f 3
          refine HK.out _ _ ⟨.inr ?_, ?_⟩
          · exact zz3
          clear HK K'
          have hS := zz3
          change wpAnyU _ _ _ _ _ _ _ _ (Act.put _ (some 41) _) _
          simp only [Act.put, List.setIfInBounds_toArray, List.set_cons_succ, List.set_cons_zero]
          refine wpAnyU_take (i := 6) (v := (.pointer (some ⟨b, 3, none⟩))) rfl (by kernel_rfl) (fun _ _ _ h => h) (leads_of [[7]] (by kernel_rfl)) (by kernel_rfl) (by kernel_rfl) (by kernel_rfl) (Or.inl ⟨by rfl, ?_⟩) hS ?_
          · intro w' hS'
            have s0 := hS'
            go_simp
          change wpAnyU _ _ _ _ _ _ _ _ (Act.put _ (some 42) _) _
          simp only [Act.put, List.setIfInBounds_toArray, List.set_cons_succ, List.set_cons_zero]
          refine wpAnyU_all (rs := [7]) (by kernel_rfl) (by simp) ?_
          intro j hj
          obtain rfl := List.mem_singleton.1 hj
          clear hj
          refine wpOp_shut rfl (fun K' HK => ?_)
          go_simp
          refine HK.out _ _ ⟨.inl (by decide), ?_⟩
          clear HK K'
          refine wpAnyU_done (by kernel_rfl) ?_ _
          have H3 := hid (H2.out.setB B2.out 3 (.slice A2 1 c2))
          have R3 := hid (R2.out.setB (Nat.lt_succ_self _) 3 (.slice A2 1 c2))
          have B3 := hid (B2.out.set (cs' := #[.int .i64 10, .int .i64 0, .string S2.nameT, .slice A2 1 c2, .slice none 0 0, .int .i64 (S.t.at_ : Nat)]) 3 (.slice A2 1 c2) rfl)
          clear hS HD BD RD H1 B1 R1 HB6 H2 B2 R2 z3 zz3 fz3 y3
          go_wp2_with fail
          go_loopg [] n (fun g wx => ∃ okx vx Sy acc val, g ≤ n ∧ Box (namesL g acc Sy = some (x1, x2)) ∧ Box (At w a ok wx okx vx Sy) ∧ Box (NB w.heap.size wx a okx b #[.int .i64 10, .int .i64 0, .string S2.nameT, val, .slice none 0 0, .int .i64 (S.t.at_ : Nat)]) ∧ Box (SR (b + 1) wx a okx val acc))
          case atStart => exact ⟨_, _, _, _, _, Nat.le_refl _, HX, H3, B3, R3⟩
          case round =>
            clear HX H3 B3 R3
            obtain ⟨okx, vx, Sy, acc, val, hgk, HX, H0, B, R⟩ := hrel
            have hx := HX.out
            clear HX
            cases gk with
            | zero => cases hx
            | succ gk =>
            unfold namesL at hx
            go_wp2_with fail
            rcases Bool.eq_false_or_eq_true (Sy.hasB (⟨#[44]⟩ : ByteArray)) with hc | hc
            · skip
              rw [if_pos hc] at hx
              split at hx
              rotate_left
              · cases hx
              rename_i hlen
              have HLEN := hid hlen
              have HX := hid hx
              clear hx hlen
              refine (has_hit H0.out.p (⟨#[44]⟩ : ByteArray) hc).mono ?_
              rintro e w1 ⟨rfl, hN⟩
              obtain ⟨ok1, v1, h1, m1⟩ := H0.out.call hN
              have H1 := hid h1
              replace B := hid (B.out.mv m1)
              replace R := hid (R.out.mv m1)
              clear hN h1 m1 H0
              clear hc
              obtain ⟨A0, c0, e0⟩ := R.out.slice
              subst e0
              obtain ⟨Sx, eSx⟩ : ∃ Sx, Sx = Sy.move := ⟨_, rfl⟩
              rw [← eSx] at HX H1
              clear eSx
              go_upto_region 11 with fail
              have y3 := B.out.c (i := 3) (u := .slice A0 acc.length c0) rfl
              have HD := hid (H1.out.below (Below.refl w1.heap.size w1).drew)
              have BD := hid (B.out.below (Below.refl w1.heap.size w1).drew)
              have RD := hid (R.out.below (Below.refl w1.heap.size w1).drew)
              clear H1 B R
              refine wp_region_until [7] (S := (fun w' => w'.cell? ⟨b, 3, none⟩ = some (.slice A0 acc.length c0))) (by kernel_rfl) ?_ ?_
              · go_keep
              intro hS
              refine wpAnyU_take (i := 0) (v := (.pointer (some ⟨b, 3, none⟩))) rfl (by kernel_rfl) (fun _ _ _ h => h) (leads_of [[7]] (by kernel_rfl)) (by kernel_rfl) (by kernel_rfl) (by kernel_rfl) (Or.inl ⟨by rfl, ?_⟩) hS ?_
              · intro w' hS'
                have s0 := hS'
                go_simp
              change wpAnyU _ _ _ _ _ _ _ _ (Act.put _ (some 45) _) _
              simp only [Act.put, List.setIfInBounds_toArray, List.set_cons_succ, List.set_cons_zero]
              refine wpAnyU_take (i := 1) (v := (.slice A0 acc.length c0)) rfl (by kernel_rfl) (fun _ _ _ h => h) (leads_of [[7]] (by kernel_rfl)) (by kernel_rfl) (by kernel_rfl) (by kernel_rfl) (Or.inl ⟨by rfl, ?_⟩) hS ?_
              · intro w' hS'
                have s0 := hS'
                go_simp
              change wpAnyU _ _ _ _ _ _ _ _ (Act.put _ (some 46) _) _
              simp only [Act.put, List.setIfInBounds_toArray, List.set_cons_succ, List.set_cons_zero]
              refine wpAnyU_take (i := 2) (v := (.pointer (some ⟨a, 0, none⟩))) rfl (by kernel_rfl) (fun _ _ _ h => h) (leads_of [[7]] (by kernel_rfl)) (by kernel_rfl) (by kernel_rfl) (by kernel_rfl) (Or.inl ⟨by rfl, ?_⟩) hS ?_
              · intro w' hS'
                have s0 := hS'
                go_simp
              change wpAnyU _ _ _ _ _ _ _ _ (Act.put _ (some 47) _) _
              simp only [Act.put, List.setIfInBounds_toArray, List.set_cons_succ, List.set_cons_zero]
              refine wpAnyU_all (rs := [3]) (by kernel_rfl) (by simp) ?_
              intro j hj
              obtain rfl := List.mem_singleton.1 hj
              clear hj
              refine wpOp_shut rfl (fun K' HK => ?_)
              refine step_call rfl (f := 70) rfl Try.func70 (by kernel_rfl) rfl #[.pointer (some ⟨a, 0, none⟩)] (by simp only [List.map_toArray, List.map_cons, List.map_nil]; rfl) ?_
              refine (name_c HD.out.p).mono ?_
              rintro e w7 ⟨rfl, hN⟩
              refine ⟨_, rfl, ?_⟩
              obtain ⟨ok1, v1, h1, m1⟩ := HD.out.call hN
              have H1 := hid h1
              have B1 := hid (BD.out.mv m1)
              have R1 := hid (RD.out.mv m1)
              clear hN h1 m1
              have z3 := B1.out.c (i := 3) (u := .slice A0 acc.length c0) rfl
              refine HK.out _ _ ⟨.inr ?_, ?_⟩
              · exact z3
              clear HK K'
              have hS := z3
              change wpAnyU _ _ _ _ _ _ _ _ (Act.put _ (some 48) _) _
              simp only [Act.put, List.setIfInBounds_toArray, List.set_cons_succ, List.set_cons_zero]
              refine wpAnyU_all (rs := [4]) (by kernel_rfl) (by simp) ?_
              intro j hj
              obtain rfl := List.mem_singleton.1 hj
              clear hj
              refine wpOp_shut rfl (fun K' HK => ?_)
              go_simp
              have HB6 := hid (below_alloc (Below.refl w7.heap.size w7) (.cells #[.string Sx.nameT] 9))
              refine HK.out _ _ ⟨.inr ?_, ?_⟩
              · exact keepc HB6.out z3
              clear HK K'
              have hS := keepc HB6.out z3
              try simp only [Act.put, List.setIfInBounds_toArray, List.set_cons_succ, List.set_cons_zero]
              refine wpAnyU_all (rs := [5]) (by kernel_rfl) (by simp) ?_
              intro j hj
              obtain rfl := List.mem_singleton.1 hj
              clear hj
              refine wpOp_shut rfl (fun K' HK => ?_)
              refine SR.append_step ?h0q8 (.tmp 46) (.tmp 49) ?h1q8 H1.out R1.out ?c1q8 ?c2q8 ?c3q8 ?c4q8 ?c5q8 ?_
              (case h0q8 => rfl)
              (case h1q8 => rfl)
              (case c1q8 => have := HBW.out; omega)
              (case c2q8 => exact B1.out.lt)
              (case c3q8 => exact HLEN.out)
              (case c4q8 => rfl)
              (case c5q8 => rfl)
              intro val1 w2 h2 r2 hg
              obtain ⟨A2, c2, e2⟩ := r2.slice
              rw [List.length_append, List.length_singleton] at e2
              subst e2
              have B2 := hid (B1.out.grown R1.out (Nat.lt_succ_self _) hg)
              have H2 := hid h2
              have R2 := hid r2
              clear hg h2 r2
              have zz3 := B2.out.c (i := 3) (u := .slice A0 acc.length c0) rfl
              have fz3 := B2.out.f 3
              refine HK.out _ _ ⟨.inr ?_, ?_⟩
              · exact zz3
              clear HK K'
              have hS := zz3
              change wpAnyU _ _ _ _ _ _ _ _ (Act.put _ (some 50) _) _
              simp only [Act.put, List.setIfInBounds_toArray, List.set_cons_succ, List.set_cons_zero]
              refine wpAnyU_take (i := 6) (v := (.pointer (some ⟨b, 3, none⟩))) rfl (by kernel_rfl) (fun _ _ _ h => h) (leads_of [[7]] (by kernel_rfl)) (by kernel_rfl) (by kernel_rfl) (by kernel_rfl) (Or.inl ⟨by rfl, ?_⟩) hS ?_
              · intro w' hS'
                have s0 := hS'
                go_simp
              change wpAnyU _ _ _ _ _ _ _ _ (Act.put _ (some 51) _) _
              simp only [Act.put, List.setIfInBounds_toArray, List.set_cons_succ, List.set_cons_zero]
              refine wpAnyU_all (rs := [7]) (by kernel_rfl) (by simp) ?_
              intro j hj
              obtain rfl := List.mem_singleton.1 hj
              clear hj
              refine wpOp_shut rfl (fun K' HK => ?_)
              go_simp
              refine HK.out _ _ ⟨.inl (by decide), ?_⟩
              clear HK K'
              refine wpAnyU_done (by kernel_rfl) ?_ _
              have H3 := hid (H2.out.setB B2.out 3 (.slice A2 (acc.length + 1) c2))
              have R3 := hid (R2.out.setB (Nat.lt_succ_self _) 3 (.slice A2 (acc.length + 1) c2))
              have B3 := hid (B2.out.set (cs' := #[.int .i64 10, .int .i64 0, .string S2.nameT, .slice A2 (acc.length + 1) c2, .slice none 0 0, .int .i64 (S.t.at_ : Nat)]) 3 (.slice A2 (acc.length + 1) c2) rfl)
              clear hS HD BD RD H1 B1 R1 HB6 H2 B2 R2 z3 zz3 fz3 y3
              go_wp2_with fail
              go_roundg gk
              case measure => omega
              case rel => exact ⟨_, _, _, _, _, by omega, HX, H3, B3, R3⟩
            · skip
              rw [if_f hc] at hx
              obtain ⟨rfl, rfl⟩ : acc = x1 ∧ Sy = x2 := by injection hx with hx; injection hx with h1 h2; exact ⟨h1, h2⟩
              clear hx
              refine (has_miss H0.out.p (⟨#[44]⟩ : ByteArray) hc).mono ?_
              rintro e w1 ⟨rfl, hN⟩
              obtain ⟨ok1, v1, h1, m1⟩ := H0.out.call hN
              have H1 := hid h1
              replace B := hid (B.out.mv m1)
              replace R := hid (R.out.mv m1)
              clear hN h1 m1 H0
              clear hc
              obtain ⟨A0, c0, e0⟩ := R.out.slice
              subst e0
              go_wp2_with fail
              refine (must_c H1.out.p (⟨#[41]⟩ : ByteArray)).mono ?_
              rintro e w2 ⟨rfl, hN⟩
              obtain ⟨ok2, v2, h2, m2⟩ := H1.out.call hN
              have H2 := hid h2
              replace B := hid (B.out.mv m2)
              replace R := hid (R.out.mv m2)
              clear hN h2 m2 H1
              go_wp2_with fail
              refine (must_c H2.out.p (⟨#[123]⟩ : ByteArray)).mono ?_
              rintro e w3 ⟨rfl, hN⟩
              obtain ⟨ok3, v3, h3, m3⟩ := H2.out.call hN
              have H3 := hid h3
              replace B := hid (B.out.mv m3)
              replace R := hid (R.out.mv m3)
              clear hN h3 m3 H2
              go_wp2_with fail
              refine (hG.list HY.out H3.out.p).mono ?_
              rintro e w4 ⟨vk, ok4, v4, rfl, g1, l1⟩
              obtain ⟨A1, c1', rfl⟩ := l1.slice
              obtain ⟨h1, m1⟩ := H3.out.trans g1
              have HBL := hid B.out.lt
              have HLE := hid H3.out.kp.size
              replace B := hid (B.out.mv m1)
              replace R := hid (R.out.mv m1)
              have H4 := hid h1
              have L := hid l1
              clear g1 l1 h1 m1 H3
              have n4 := B.out.c (i := 4) (u := .slice none 0 0) rfl
              have fz4 := B.out.f 4
              go_wp2_with fail
              clear n4 fz4
              replace L := hid (L.out.setB HBL.out 4 (.slice A1 y2.length c1'))
              replace R := hid (R.out.setB (Nat.lt_succ_self _) 4 (.slice A1 y2.length c1'))
              replace H4 := hid (H4.out.setB B.out 4 (.slice A1 y2.length c1'))
              replace B := hid (B.out.set (cs' := #[.int .i64 10, .int .i64 0, .string S2.nameT, .slice A0 acc.length c0, .slice A1 y2.length c1', .int .i64 (S.t.at_ : Nat)]) 4 (.slice A1 y2.length c1') rfl)
              refine (must_c H4.out.p (⟨#[125]⟩ : ByteArray)).mono ?_
              rintro e w5 ⟨rfl, hN⟩
              obtain ⟨ok5, v5, h5, m5⟩ := H4.out.call hN
              have H5 := hid h5
              replace L := hid (L.out.mv m5)
              replace B := hid (B.out.mv m5)
              replace R := hid (R.out.mv m5)
              clear hN h5 m5 H4
              have n0 := B.out.c (i := 0) (u := .int .i64 10) rfl
              have n1 := B.out.c (i := 1) (u := .int .i64 0) rfl
              have n2 := B.out.c (i := 2) (u := .string S2.nameT) rfl
              have n3 := B.out.c (i := 3) (u := .slice A0 acc.length c0) rfl
              have n4 := B.out.c (i := 4) (u := .slice A1 y2.length c1') rfl
              have n5 := B.out.c (i := 5) (u := .int .i64 (S.t.at_ : Nat)) rfl
              go_wp2_with fail
              clear n0 n1 n2 n3 n4 n5
              refine (put_both H5.out (R.out.le (by have := HBW.out; omega)) (L.out.le HLE.out) HRR.out).mono ?_
              rintro e wz ⟨rfl, hN⟩
              have HN := hid hN
              clear hN
              go_wp2_with fail
              go_ret
              exact ⟨ret_nat rfl, HN.out⟩
      · skip
        rw [if_f hk] at hr
        have hk' : ¬ S2.t.kind = 3 := by simpa using hk
        clear hk
        go_upto_region 7 with fail
        clear hk' c1
        unfold fnT at hr
        obtain ⟨⟨x1, x2⟩, hx, hr2⟩ := Option.bind_eq_some_iff.1 hr
        clear hr
        have hr := hr2
        clear hr2
        dsimp only at hr
        unfold names0 at hx
        obtain ⟨⟨y1, y2, y3⟩, hy, hr2⟩ := Option.bind_eq_some_iff.1 hr
        have HY := hid hy
        clear hr hy
        dsimp only at hr2
        have hr := hr2
        clear hr2
        obtain ⟨hr2, rfl⟩ := one1_some hr
        have HRR := hid hr2
        clear hr hr2
        have HX := hid hx
        clear hx
        go_wp2_with fail
        refine (must_c H2.out.p (⟨#[40]⟩ : ByteArray)).mono ?_
        rintro e w3 ⟨rfl, hN⟩
        obtain ⟨ok3, v3, h3, m3⟩ := H2.out.call hN
        have H3 := hid h3
        replace B := hid (B.out.mv m3)
        clear hN h3 m3 H2
        obtain ⟨S4, eS4⟩ : ∃ S4, S4 = (S2.must (⟨#[40]⟩ : ByteArray)) := ⟨_, rfl⟩
        rw [← eS4] at HX H3
        clear eS4
        go_wp2_with fail
        rcases Bool.eq_false_or_eq_true (S4.is (⟨#[41]⟩ : ByteArray)) with hp | hp
        · skip
          have hx := HX.out
          clear HX
          rw [if_neg (by simp [hp])] at hx
          obtain ⟨rfl, rfl⟩ : [] = x1 ∧ S4 = x2 := by injection hx with hx; injection hx with h1 h2; exact ⟨h1, h2⟩
          clear hx
          have HI := hid (is_hit H3.out.p (⟨#[41]⟩ : ByteArray) hp)
          clear hp
          refine HI.out.mono ?_
          rintro e w' ⟨rfl, rfl⟩
          clear HI
          have R := hid (SR.nil (b + 1) w3 a ok3)
          go_wp2_with fail
          refine (must_c H3.out.p (⟨#[41]⟩ : ByteArray)).mono ?_
          rintro e w4 ⟨rfl, hN⟩
          obtain ⟨ok4, v4, h4, m4⟩ := H3.out.call hN
          have H4 := hid h4
          replace B := hid (B.out.mv m4)
          replace R := hid (R.out.mv m4)
          clear hN h4 m4 H3
          go_wp2_with fail
          refine (must_c H4.out.p (⟨#[123]⟩ : ByteArray)).mono ?_
          rintro e w5 ⟨rfl, hN⟩
          obtain ⟨ok5, v5, h5, m5⟩ := H4.out.call hN
          have H5 := hid h5
          replace B := hid (B.out.mv m5)
          replace R := hid (R.out.mv m5)
          clear hN h5 m5 H4
          go_wp2_with fail
          refine (hG.list HY.out H5.out.p).mono ?_
          rintro e w6 ⟨vk, ok6, v6, rfl, g1, l1⟩
          obtain ⟨A1, c1', rfl⟩ := l1.slice
          obtain ⟨h1, m1⟩ := H5.out.trans g1
          have HBL := hid B.out.lt
          have HLE := hid H5.out.kp.size
          replace B := hid (B.out.mv m1)
          replace R := hid (R.out.mv m1)
          have H6 := hid h1
          have L := hid l1
          clear g1 l1 h1 m1 H5
          have n4 := B.out.c (i := 4) (u := .slice none 0 0) rfl
          have fz4 := B.out.f 4
          go_wp2_with fail
          clear n4 fz4
          replace L := hid (L.out.setB HBL.out 4 (.slice A1 y2.length c1'))
          replace R := hid (R.out.setB (Nat.lt_succ_self _) 4 (.slice A1 y2.length c1'))
          replace H6 := hid (H6.out.setB B.out 4 (.slice A1 y2.length c1'))
          replace B := hid (B.out.set (cs' := #[.int .i64 10, .int .i64 0, .string ⟨#[]⟩, .slice none 0 0, .slice A1 y2.length c1', .int .i64 (S.t.at_ : Nat)]) 4 (.slice A1 y2.length c1') rfl)
          refine (must_c H6.out.p (⟨#[125]⟩ : ByteArray)).mono ?_
          rintro e w7 ⟨rfl, hN⟩
          obtain ⟨ok7, v7, h7, m7⟩ := H6.out.call hN
          have H7 := hid h7
          replace L := hid (L.out.mv m7)
          replace B := hid (B.out.mv m7)
          replace R := hid (R.out.mv m7)
          clear hN h7 m7 H6
          have n0 := B.out.c (i := 0) (u := .int .i64 10) rfl
          have n1 := B.out.c (i := 1) (u := .int .i64 0) rfl
          have n2 := B.out.c (i := 2) (u := .string ⟨#[]⟩) rfl
          have n3 := B.out.c (i := 3) (u := .slice none 0 0) rfl
          have n4 := B.out.c (i := 4) (u := .slice A1 y2.length c1') rfl
          have n5 := B.out.c (i := 5) (u := .int .i64 (S.t.at_ : Nat)) rfl
          go_wp2_with fail
          clear n0 n1 n2 n3 n4 n5
          refine (put_both H7.out (R.out.le (by have := HBW.out; omega)) (L.out.le HLE.out) HRR.out).mono ?_
          rintro e wz ⟨rfl, hN⟩
          have HN := hid hN
          clear hN
          go_wp2_with fail
          go_ret
          exact ⟨ret_nat rfl, HN.out⟩
        · skip
          have hx := HX.out
          clear HX
          rw [if_pos (by simp [hp])] at hx
          have HX := hid hx
          clear hx
          have HI := hid (is_hit H3.out.p (⟨#[41]⟩ : ByteArray) hp)
          clear hp
          refine HI.out.mono ?_
          rintro e w' ⟨rfl, rfl⟩
          clear HI
          go_upto_region 9 with fail
          obtain ⟨Sx, eSx⟩ : ∃ Sx, Sx = S4 := ⟨_, rfl⟩
          rw [← eSx] at HX H3
          clear eSx
          have y3 := B.out.c (i := 3) (u := .slice none 0 0) rfl
          have HD := hid (H3.out.below (Below.refl w3.heap.size w3).drew)
          have BD := hid (B.out.below (Below.refl w3.heap.size w3).drew)
          have RD := hid (SR.nil (b + 1) w3.drew a ok3)
          clear H3 B
          refine wp_region_until [7] (S := (fun w' => w'.cell? ⟨b, 3, none⟩ = some (.slice none 0 0))) (by kernel_rfl) ?_ ?_
          · go_keep
          intro hS
          refine wpAnyU_take (i := 0) (v := (.pointer (some ⟨b, 3, none⟩))) rfl (by kernel_rfl) (fun _ _ _ h => h) (leads_of [[7]] (by kernel_rfl)) (by kernel_rfl) (by kernel_rfl) (by kernel_rfl) (Or.inl ⟨by rfl, ?_⟩) hS ?_
          · intro w' hS'
            have s0 := hS'
            go_simp
          change wpAnyU _ _ _ _ _ _ _ _ (Act.put _ (some 36) _) _
          simp only [Act.put, List.setIfInBounds_toArray, List.set_cons_succ, List.set_cons_zero]
          refine wpAnyU_take (i := 1) (v := (.slice none 0 0)) rfl (by kernel_rfl) (fun _ _ _ h => h) (leads_of [[7]] (by kernel_rfl)) (by kernel_rfl) (by kernel_rfl) (by kernel_rfl) (Or.inl ⟨by rfl, ?_⟩) hS ?_
          · intro w' hS'
            have s0 := hS'
            go_simp
          change wpAnyU _ _ _ _ _ _ _ _ (Act.put _ (some 37) _) _
          simp only [Act.put, List.setIfInBounds_toArray, List.set_cons_succ, List.set_cons_zero]
          refine wpAnyU_take (i := 2) (v := (.pointer (some ⟨a, 0, none⟩))) rfl (by kernel_rfl) (fun _ _ _ h => h) (leads_of [[7]] (by kernel_rfl)) (by kernel_rfl) (by kernel_rfl) (by kernel_rfl) (Or.inl ⟨by rfl, ?_⟩) hS ?_
          · intro w' hS'
            have s0 := hS'
            go_simp
          change wpAnyU _ _ _ _ _ _ _ _ (Act.put _ (some 38) _) _
          simp only [Act.put, List.setIfInBounds_toArray, List.set_cons_succ, List.set_cons_zero]
          refine wpAnyU_all (rs := [3]) (by kernel_rfl) (by simp) ?_
          intro j hj
          obtain rfl := List.mem_singleton.1 hj
          clear hj
          refine wpOp_shut rfl (fun K' HK => ?_)
          refine step_call rfl (f := 70) rfl Try.func70 (by kernel_rfl) rfl #[.pointer (some ⟨a, 0, none⟩)] (by simp only [List.map_toArray, List.map_cons, List.map_nil]; rfl) ?_
          refine (name_c HD.out.p).mono ?_
          rintro e w1 ⟨rfl, hN⟩
          refine ⟨_, rfl, ?_⟩
          obtain ⟨ok1, v1, h1, m1⟩ := HD.out.call hN
          have H1 := hid h1
          have B1 := hid (BD.out.mv m1)
          have R1 := hid (RD.out.mv m1)
          clear hN h1 m1
          have z3 := B1.out.c (i := 3) (u := .slice none 0 0) rfl
          refine HK.out _ _ ⟨.inr ?_, ?_⟩
          · exact z3
          clear HK K'
          have hS := z3
          change wpAnyU _ _ _ _ _ _ _ _ (Act.put _ (some 39) _) _
          simp only [Act.put, List.setIfInBounds_toArray, List.set_cons_succ, List.set_cons_zero]
          refine wpAnyU_all (rs := [4]) (by kernel_rfl) (by simp) ?_
          intro j hj
          obtain rfl := List.mem_singleton.1 hj
          clear hj
          refine wpOp_shut rfl (fun K' HK => ?_)
          go_simp
          have HB6 := hid (below_alloc (Below.refl w1.heap.size w1) (.cells #[.string Sx.nameT] 9))
          refine HK.out _ _ ⟨.inr ?_, ?_⟩
          · exact keepc HB6.out z3
          clear HK K'
          have hS := keepc HB6.out z3
          try simp only [Act.put, List.setIfInBounds_toArray, List.set_cons_succ, List.set_cons_zero]
          refine wpAnyU_all (rs := [5]) (by kernel_rfl) (by simp) ?_
          intro j hj
          obtain rfl := List.mem_singleton.1 hj
          clear hj
          refine wpOp_shut rfl (fun K' HK => ?_)
          refine SR.append_step ?h0q9 (.tmp 37) (.tmp 40) ?h1q9 H1.out R1.out ?c1q9 ?c2q9 ?c3q9 ?c4q9 ?c5q9 ?_
          (case h0q9 => rfl)
          (case h1q9 => rfl)
          (case c1q9 => have := HBW.out; omega)
          (case c2q9 => exact B1.out.lt)
          (case c3q9 => simp)
          (case c4q9 => rfl)
          (case c5q9 => rfl)
          intro val1 w2 h2 r2 hg
          obtain ⟨A2, c2, e2⟩ := r2.slice
          obtain rfl : val1 = .slice A2 1 c2 := e2
          have B2 := hid (B1.out.grown R1.out (Nat.lt_succ_self _) hg)
          have H2 := hid h2
          have R2 := hid r2
          clear hg h2 r2
          have zz3 := B2.out.c (i := 3) (u := .slice none 0 0) rfl
          have fz3 := B2.out.f 3
          refine HK.out _ _ ⟨.inr ?_, ?_⟩
          · exact zz3
          clear HK K'
          have hS := zz3
          change wpAnyU _ _ _ _ _ _ _ _ (Act.put _ (some 41) _) _
          simp only [Act.put, List.setIfInBounds_toArray, List.set_cons_succ, List.set_cons_zero]
          refine wpAnyU_take (i := 6) (v := (.pointer (some ⟨b, 3, none⟩))) rfl (by kernel_rfl) (fun _ _ _ h => h) (leads_of [[7]] (by kernel_rfl)) (by kernel_rfl) (by kernel_rfl) (by kernel_rfl) (Or.inl ⟨by rfl, ?_⟩) hS ?_
          · intro w' hS'
            have s0 := hS'
            go_simp
          change wpAnyU _ _ _ _ _ _ _ _ (Act.put _ (some 42) _) _
          simp only [Act.put, List.setIfInBounds_toArray, List.set_cons_succ, List.set_cons_zero]
          refine wpAnyU_all (rs := [7]) (by kernel_rfl) (by simp) ?_
          intro j hj
          obtain rfl := List.mem_singleton.1 hj
          clear hj
          refine wpOp_shut rfl (fun K' HK => ?_)
          go_simp
          refine HK.out _ _ ⟨.inl (by decide), ?_⟩
          clear HK K'
          refine wpAnyU_done (by kernel_rfl) ?_ _
          have H3 := hid (H2.out.setB B2.out 3 (.slice A2 1 c2))
          have R3 := hid (R2.out.setB (Nat.lt_succ_self _) 3 (.slice A2 1 c2))
          have B3 := hid (B2.out.set (cs' := #[.int .i64 10, .int .i64 0, .string ⟨#[]⟩, .slice A2 1 c2, .slice none 0 0, .int .i64 (S.t.at_ : Nat)]) 3 (.slice A2 1 c2) rfl)
          clear hS HD BD RD H1 B1 R1 HB6 H2 B2 R2 z3 zz3 fz3 y3
          go_wp2_with fail
          go_loopg [] n (fun g wx => ∃ okx vx Sy acc val, g ≤ n ∧ Box (namesL g acc Sy = some (x1, x2)) ∧ Box (At w a ok wx okx vx Sy) ∧ Box (NB w.heap.size wx a okx b #[.int .i64 10, .int .i64 0, .string ⟨#[]⟩, val, .slice none 0 0, .int .i64 (S.t.at_ : Nat)]) ∧ Box (SR (b + 1) wx a okx val acc))
          case atStart => exact ⟨_, _, _, _, _, Nat.le_refl _, HX, H3, B3, R3⟩
          case round =>
            clear HX H3 B3 R3
            obtain ⟨okx, vx, Sy, acc, val, hgk, HX, H0, B, R⟩ := hrel
            have hx := HX.out
            clear HX
            cases gk with
            | zero => cases hx
            | succ gk =>
            unfold namesL at hx
            go_wp2_with fail
            rcases Bool.eq_false_or_eq_true (Sy.hasB (⟨#[44]⟩ : ByteArray)) with hc | hc
            · skip
              rw [if_pos hc] at hx
              split at hx
              rotate_left
              · cases hx
              rename_i hlen
              have HLEN := hid hlen
              have HX := hid hx
              clear hx hlen
              refine (has_hit H0.out.p (⟨#[44]⟩ : ByteArray) hc).mono ?_
              rintro e w1 ⟨rfl, hN⟩
              obtain ⟨ok1, v1, h1, m1⟩ := H0.out.call hN
              have H1 := hid h1
              replace B := hid (B.out.mv m1)
              replace R := hid (R.out.mv m1)
              clear hN h1 m1 H0
              clear hc
              obtain ⟨A0, c0, e0⟩ := R.out.slice
              subst e0
              obtain ⟨Sx, eSx⟩ : ∃ Sx, Sx = Sy.move := ⟨_, rfl⟩
              rw [← eSx] at HX H1
              clear eSx
              go_upto_region 11 with fail
              have y3 := B.out.c (i := 3) (u := .slice A0 acc.length c0) rfl
              have HD := hid (H1.out.below (Below.refl w1.heap.size w1).drew)
              have BD := hid (B.out.below (Below.refl w1.heap.size w1).drew)
              have RD := hid (R.out.below (Below.refl w1.heap.size w1).drew)
              clear H1 B R
              refine wp_region_until [7] (S := (fun w' => w'.cell? ⟨b, 3, none⟩ = some (.slice A0 acc.length c0))) (by kernel_rfl) ?_ ?_
              · go_keep
              intro hS
              refine wpAnyU_take (i := 0) (v := (.pointer (some ⟨b, 3, none⟩))) rfl (by kernel_rfl) (fun _ _ _ h => h) (leads_of [[7]] (by kernel_rfl)) (by kernel_rfl) (by kernel_rfl) (by kernel_rfl) (Or.inl ⟨by rfl, ?_⟩) hS ?_
              · intro w' hS'
                have s0 := hS'
                go_simp
              change wpAnyU _ _ _ _ _ _ _ _ (Act.put _ (some 45) _) _
              simp only [Act.put, List.setIfInBounds_toArray, List.set_cons_succ, List.set_cons_zero]
              refine wpAnyU_take (i := 1) (v := (.slice A0 acc.length c0)) rfl (by kernel_rfl) (fun _ _ _ h => h) (leads_of [[7]] (by kernel_rfl)) (by kernel_rfl) (by kernel_rfl) (by kernel_rfl) (Or.inl ⟨by rfl, ?_⟩) hS ?_
              · intro w' hS'
                have s0 := hS'
                go_simp
              change wpAnyU _ _ _ _ _ _ _ _ (Act.put _ (some 46) _) _
              simp only [Act.put, List.setIfInBounds_toArray, List.set_cons_succ, List.set_cons_zero]
              refine wpAnyU_take (i := 2) (v := (.pointer (some ⟨a, 0, none⟩))) rfl (by kernel_rfl) (fun _ _ _ h => h) (leads_of [[7]] (by kernel_rfl)) (by kernel_rfl) (by kernel_rfl) (by kernel_rfl) (Or.inl ⟨by rfl, ?_⟩) hS ?_
              · intro w' hS'
                have s0 := hS'
                go_simp
              change wpAnyU _ _ _ _ _ _ _ _ (Act.put _ (some 47) _) _
              simp only [Act.put, List.setIfInBounds_toArray, List.set_cons_succ, List.set_cons_zero]
              refine wpAnyU_all (rs := [3]) (by kernel_rfl) (by simp) ?_
              intro j hj
              obtain rfl := List.mem_singleton.1 hj
              clear hj
              refine wpOp_shut rfl (fun K' HK => ?_)
              refine step_call rfl (f := 70) rfl Try.func70 (by kernel_rfl) rfl #[.pointer (some ⟨a, 0, none⟩)] (by simp only [List.map_toArray, List.map_cons, List.map_nil]; rfl) ?_
              refine (name_c HD.out.p).mono ?_
              rintro e w7 ⟨rfl, hN⟩
              refine ⟨_, rfl, ?_⟩
              obtain ⟨ok1, v1, h1, m1⟩ := HD.out.call hN
              have H1 := hid h1
              have B1 := hid (BD.out.mv m1)
              have R1 := hid (RD.out.mv m1)
              clear hN h1 m1
              have z3 := B1.out.c (i := 3) (u := .slice A0 acc.length c0) rfl
              refine HK.out _ _ ⟨.inr ?_, ?_⟩
              · exact z3
              clear HK K'
              have hS := z3
              change wpAnyU _ _ _ _ _ _ _ _ (Act.put _ (some 48) _) _
              simp only [Act.put, List.setIfInBounds_toArray, List.set_cons_succ, List.set_cons_zero]
              refine wpAnyU_all (rs := [4]) (by kernel_rfl) (by simp) ?_
              intro j hj
              obtain rfl := List.mem_singleton.1 hj
              clear hj
              refine wpOp_shut rfl (fun K' HK => ?_)
              go_simp
              have HB6 := hid (below_alloc (Below.refl w7.heap.size w7) (.cells #[.string Sx.nameT] 9))
              refine HK.out _ _ ⟨.inr ?_, ?_⟩
              · exact keepc HB6.out z3
              clear HK K'
              have hS := keepc HB6.out z3
              try simp only [Act.put, List.setIfInBounds_toArray, List.set_cons_succ, List.set_cons_zero]
              refine wpAnyU_all (rs := [5]) (by kernel_rfl) (by simp) ?_
              intro j hj
              obtain rfl := List.mem_singleton.1 hj
              clear hj
              refine wpOp_shut rfl (fun K' HK => ?_)
              refine SR.append_step ?h0q10 (.tmp 46) (.tmp 49) ?h1q10 H1.out R1.out ?c1q10 ?c2q10 ?c3q10 ?c4q10 ?c5q10 ?_
              (case h0q10 => rfl)
              (case h1q10 => rfl)
              (case c1q10 => have := HBW.out; omega)
              (case c2q10 => exact B1.out.lt)
              (case c3q10 => exact HLEN.out)
              (case c4q10 => rfl)
              (case c5q10 => rfl)
              intro val1 w2 h2 r2 hg
              obtain ⟨A2, c2, e2⟩ := r2.slice
              rw [List.length_append, List.length_singleton] at e2
              subst e2
              have B2 := hid (B1.out.grown R1.out (Nat.lt_succ_self _) hg)
              have H2 := hid h2
              have R2 := hid r2
              clear hg h2 r2
              have zz3 := B2.out.c (i := 3) (u := .slice A0 acc.length c0) rfl
              have fz3 := B2.out.f 3
              refine HK.out _ _ ⟨.inr ?_, ?_⟩
              · exact zz3
              clear HK K'
              have hS := zz3
              change wpAnyU _ _ _ _ _ _ _ _ (Act.put _ (some 50) _) _
              simp only [Act.put, List.setIfInBounds_toArray, List.set_cons_succ, List.set_cons_zero]
              refine wpAnyU_take (i := 6) (v := (.pointer (some ⟨b, 3, none⟩))) rfl (by kernel_rfl) (fun _ _ _ h => h) (leads_of [[7]] (by kernel_rfl)) (by kernel_rfl) (by kernel_rfl) (by kernel_rfl) (Or.inl ⟨by rfl, ?_⟩) hS ?_
              · intro w' hS'
                have s0 := hS'
                go_simp
              change wpAnyU _ _ _ _ _ _ _ _ (Act.put _ (some 51) _) _
              simp only [Act.put, List.setIfInBounds_toArray, List.set_cons_succ, List.set_cons_zero]
              refine wpAnyU_all (rs := [7]) (by kernel_rfl) (by simp) ?_
              intro j hj
              obtain rfl := List.mem_singleton.1 hj
              clear hj
              refine wpOp_shut rfl (fun K' HK => ?_)
              go_simp
              refine HK.out _ _ ⟨.inl (by decide), ?_⟩
              clear HK K'
              refine wpAnyU_done (by kernel_rfl) ?_ _
              have H3 := hid (H2.out.setB B2.out 3 (.slice A2 (acc.length + 1) c2))
              have R3 := hid (R2.out.setB (Nat.lt_succ_self _) 3 (.slice A2 (acc.length + 1) c2))
              have B3 := hid (B2.out.set (cs' := #[.int .i64 10, .int .i64 0, .string ⟨#[]⟩, .slice A2 (acc.length + 1) c2, .slice none 0 0, .int .i64 (S.t.at_ : Nat)]) 3 (.slice A2 (acc.length + 1) c2) rfl)
              clear hS HD BD RD H1 B1 R1 HB6 H2 B2 R2 z3 zz3 fz3 y3
              go_wp2_with fail
              go_roundg gk
              case measure => omega
              case rel => exact ⟨_, _, _, _, _, by omega, HX, H3, B3, R3⟩
            · skip
              rw [if_f hc] at hx
              obtain ⟨rfl, rfl⟩ : acc = x1 ∧ Sy = x2 := by injection hx with hx; injection hx with h1 h2; exact ⟨h1, h2⟩
              clear hx
              refine (has_miss H0.out.p (⟨#[44]⟩ : ByteArray) hc).mono ?_
              rintro e w1 ⟨rfl, hN⟩
              obtain ⟨ok1, v1, h1, m1⟩ := H0.out.call hN
              have H1 := hid h1
              replace B := hid (B.out.mv m1)
              replace R := hid (R.out.mv m1)
              clear hN h1 m1 H0
              clear hc
              obtain ⟨A0, c0, e0⟩ := R.out.slice
              subst e0
              go_wp2_with fail
              refine (must_c H1.out.p (⟨#[41]⟩ : ByteArray)).mono ?_
              rintro e w2 ⟨rfl, hN⟩
              obtain ⟨ok2, v2, h2, m2⟩ := H1.out.call hN
              have H2 := hid h2
              replace B := hid (B.out.mv m2)
              replace R := hid (R.out.mv m2)
              clear hN h2 m2 H1
              go_wp2_with fail
              refine (must_c H2.out.p (⟨#[123]⟩ : ByteArray)).mono ?_
              rintro e w3 ⟨rfl, hN⟩
              obtain ⟨ok3, v3, h3, m3⟩ := H2.out.call hN
              have H3 := hid h3
              replace B := hid (B.out.mv m3)
              replace R := hid (R.out.mv m3)
              clear hN h3 m3 H2
              go_wp2_with fail
              refine (hG.list HY.out H3.out.p).mono ?_
              rintro e w4 ⟨vk, ok4, v4, rfl, g1, l1⟩
              obtain ⟨A1, c1', rfl⟩ := l1.slice
              obtain ⟨h1, m1⟩ := H3.out.trans g1
              have HBL := hid B.out.lt
              have HLE := hid H3.out.kp.size
              replace B := hid (B.out.mv m1)
              replace R := hid (R.out.mv m1)
              have H4 := hid h1
              have L := hid l1
              clear g1 l1 h1 m1 H3
              have n4 := B.out.c (i := 4) (u := .slice none 0 0) rfl
              have fz4 := B.out.f 4
              go_wp2_with fail
              clear n4 fz4
              replace L := hid (L.out.setB HBL.out 4 (.slice A1 y2.length c1'))
              replace R := hid (R.out.setB (Nat.lt_succ_self _) 4 (.slice A1 y2.length c1'))
              replace H4 := hid (H4.out.setB B.out 4 (.slice A1 y2.length c1'))
              replace B := hid (B.out.set (cs' := #[.int .i64 10, .int .i64 0, .string ⟨#[]⟩, .slice A0 acc.length c0, .slice A1 y2.length c1', .int .i64 (S.t.at_ : Nat)]) 4 (.slice A1 y2.length c1') rfl)
              refine (must_c H4.out.p (⟨#[125]⟩ : ByteArray)).mono ?_
              rintro e w5 ⟨rfl, hN⟩
              obtain ⟨ok5, v5, h5, m5⟩ := H4.out.call hN
              have H5 := hid h5
              replace L := hid (L.out.mv m5)
              replace B := hid (B.out.mv m5)
              replace R := hid (R.out.mv m5)
              clear hN h5 m5 H4
              have n0 := B.out.c (i := 0) (u := .int .i64 10) rfl
              have n1 := B.out.c (i := 1) (u := .int .i64 0) rfl
              have n2 := B.out.c (i := 2) (u := .string ⟨#[]⟩) rfl
              have n3 := B.out.c (i := 3) (u := .slice A0 acc.length c0) rfl
              have n4 := B.out.c (i := 4) (u := .slice A1 y2.length c1') rfl
              have n5 := B.out.c (i := 5) (u := .int .i64 (S.t.at_ : Nat)) rfl
              go_wp2_with fail
              clear n0 n1 n2 n3 n4 n5
              refine (put_both H5.out (R.out.le (by have := HBW.out; omega)) (L.out.le HLE.out) HRR.out).mono ?_
              rintro e wz ⟨rfl, hN⟩
              have HN := hid hN
              clear hN
              go_wp2_with fail
              go_ret
              exact ⟨ret_nat rfl, HN.out⟩
    · skip
      rw [Bool.true_or, if_pos rfl] at hr
      go_wp2_with fail
      refine (name_c H2.out.p).mono ?_
      rintro e w3 ⟨rfl, hN⟩
      obtain ⟨ok3, v3, h3, m3⟩ := H2.out.call hN
      have H3 := hid h3
      replace B := hid (B.out.mv m3)
      clear hN h3 m3 H2
      have n2 := B.out.c (i := 2) (u := .string ⟨#[]⟩) rfl
      have fz2 := B.out.f 2
      go_upto_region 7 with fail
      clear n2 fz2
      replace H3 := hid (H3.out.setB B.out 2 (.string S2.nameT))
      replace B := hid (B.out.set (cs' := #[.int .i64 10, .int .i64 0, .string S2.nameT, .slice none 0 0, .slice none 0 0, .int .i64 (S.t.at_ : Nat)]) 2 (.string S2.nameT) rfl)
      generalize (w3.setCell ⟨b, 2, none⟩ (.string S2.nameT)) = V3 at H3 B ⊢
      unfold fnT at hr
      obtain ⟨⟨x1, x2⟩, hx, hr2⟩ := Option.bind_eq_some_iff.1 hr
      clear hr
      have hr := hr2
      clear hr2
      dsimp only at hr
      unfold names0 at hx
      obtain ⟨⟨y1, y2, y3⟩, hy, hr2⟩ := Option.bind_eq_some_iff.1 hr
      have HY := hid hy
      clear hr hy
      dsimp only at hr2
      have hr := hr2
      clear hr2
      obtain ⟨hr2, rfl⟩ := one1_some hr
      have HRR := hid hr2
      clear hr hr2
      have HX := hid hx
      clear hx
      go_wp2_with fail
      refine (must_c H3.out.p (⟨#[40]⟩ : ByteArray)).mono ?_
      rintro e w4 ⟨rfl, hN⟩
      obtain ⟨ok4, v4, h4, m4⟩ := H3.out.call hN
      have H4 := hid h4
      replace B := hid (B.out.mv m4)
      clear hN h4 m4 H3
      obtain ⟨S4, eS4⟩ : ∃ S4, S4 = (S2.name.must (⟨#[40]⟩ : ByteArray)) := ⟨_, rfl⟩
      rw [← eS4] at HX H4
      clear eS4
      go_wp2_with fail
      rcases Bool.eq_false_or_eq_true (S4.is (⟨#[41]⟩ : ByteArray)) with hp | hp
      · skip
        have hx := HX.out
        clear HX
        rw [if_neg (by simp [hp])] at hx
        obtain ⟨rfl, rfl⟩ : [] = x1 ∧ S4 = x2 := by injection hx with hx; injection hx with h1 h2; exact ⟨h1, h2⟩
        clear hx
        have HI := hid (is_hit H4.out.p (⟨#[41]⟩ : ByteArray) hp)
        clear hp
        refine HI.out.mono ?_
        rintro e w' ⟨rfl, rfl⟩
        clear HI
        have R := hid (SR.nil (b + 1) w4 a ok4)
        go_wp2_with fail
        refine (must_c H4.out.p (⟨#[41]⟩ : ByteArray)).mono ?_
        rintro e w5 ⟨rfl, hN⟩
        obtain ⟨ok5, v5, h5, m5⟩ := H4.out.call hN
        have H5 := hid h5
        replace B := hid (B.out.mv m5)
        replace R := hid (R.out.mv m5)
        clear hN h5 m5 H4
        go_wp2_with fail
        refine (must_c H5.out.p (⟨#[123]⟩ : ByteArray)).mono ?_
        rintro e w6 ⟨rfl, hN⟩
        obtain ⟨ok6, v6, h6, m6⟩ := H5.out.call hN
        have H6 := hid h6
        replace B := hid (B.out.mv m6)
        replace R := hid (R.out.mv m6)
        clear hN h6 m6 H5
        go_wp2_with fail
        refine (hG.list HY.out H6.out.p).mono ?_
        rintro e w7 ⟨vk, ok7, v7, rfl, g1, l1⟩
        obtain ⟨A1, c1', rfl⟩ := l1.slice
        obtain ⟨h1, m1⟩ := H6.out.trans g1
        have HBL := hid B.out.lt
        have HLE := hid H6.out.kp.size
        replace B := hid (B.out.mv m1)
        replace R := hid (R.out.mv m1)
        have H7 := hid h1
        have L := hid l1
        clear g1 l1 h1 m1 H6
        have n4 := B.out.c (i := 4) (u := .slice none 0 0) rfl
        have fz4 := B.out.f 4
        go_wp2_with fail
        clear n4 fz4
        replace L := hid (L.out.setB HBL.out 4 (.slice A1 y2.length c1'))
        replace R := hid (R.out.setB (Nat.lt_succ_self _) 4 (.slice A1 y2.length c1'))
        replace H7 := hid (H7.out.setB B.out 4 (.slice A1 y2.length c1'))
        replace B := hid (B.out.set (cs' := #[.int .i64 10, .int .i64 0, .string S2.nameT, .slice none 0 0, .slice A1 y2.length c1', .int .i64 (S.t.at_ : Nat)]) 4 (.slice A1 y2.length c1') rfl)
        refine (must_c H7.out.p (⟨#[125]⟩ : ByteArray)).mono ?_
        rintro e w8 ⟨rfl, hN⟩
        obtain ⟨ok8, v8, h8, m8⟩ := H7.out.call hN
        have H8 := hid h8
        replace L := hid (L.out.mv m8)
        replace B := hid (B.out.mv m8)
        replace R := hid (R.out.mv m8)
        clear hN h8 m8 H7
        have n0 := B.out.c (i := 0) (u := .int .i64 10) rfl
        have n1 := B.out.c (i := 1) (u := .int .i64 0) rfl
        have n2 := B.out.c (i := 2) (u := .string S2.nameT) rfl
        have n3 := B.out.c (i := 3) (u := .slice none 0 0) rfl
        have n4 := B.out.c (i := 4) (u := .slice A1 y2.length c1') rfl
        have n5 := B.out.c (i := 5) (u := .int .i64 (S.t.at_ : Nat)) rfl
        go_wp2_with fail
        clear n0 n1 n2 n3 n4 n5
        refine (put_both H8.out (R.out.le (by have := HBW.out; omega)) (L.out.le HLE.out) HRR.out).mono ?_
        rintro e wz ⟨rfl, hN⟩
        have HN := hid hN
        clear hN
        go_wp2_with fail
        go_ret
        exact ⟨ret_nat rfl, HN.out⟩
      · skip
        have hx := HX.out
        clear HX
        rw [if_pos (by simp [hp])] at hx
        have HX := hid hx
        clear hx
        have HI := hid (is_hit H4.out.p (⟨#[41]⟩ : ByteArray) hp)
        clear hp
        refine HI.out.mono ?_
        rintro e w' ⟨rfl, rfl⟩
        clear HI
        go_upto_region 9 with fail
        obtain ⟨Sx, eSx⟩ : ∃ Sx, Sx = S4 := ⟨_, rfl⟩
        rw [← eSx] at HX H4
        clear eSx
        have y3 := B.out.c (i := 3) (u := .slice none 0 0) rfl
        have HD := hid (H4.out.below (Below.refl w4.heap.size w4).drew)
        have BD := hid (B.out.below (Below.refl w4.heap.size w4).drew)
        have RD := hid (SR.nil (b + 1) w4.drew a ok4)
        clear H4 B
        refine wp_region_until [7] (S := (fun w' => w'.cell? ⟨b, 3, none⟩ = some (.slice none 0 0))) (by kernel_rfl) ?_ ?_
        · go_keep
        intro hS
        refine wpAnyU_take (i := 0) (v := (.pointer (some ⟨b, 3, none⟩))) rfl (by kernel_rfl) (fun _ _ _ h => h) (leads_of [[7]] (by kernel_rfl)) (by kernel_rfl) (by kernel_rfl) (by kernel_rfl) (Or.inl ⟨by rfl, ?_⟩) hS ?_
        · intro w' hS'
          have s0 := hS'
          go_simp
        change wpAnyU _ _ _ _ _ _ _ _ (Act.put _ (some 36) _) _
        simp only [Act.put, List.setIfInBounds_toArray, List.set_cons_succ, List.set_cons_zero]
        refine wpAnyU_take (i := 1) (v := (.slice none 0 0)) rfl (by kernel_rfl) (fun _ _ _ h => h) (leads_of [[7]] (by kernel_rfl)) (by kernel_rfl) (by kernel_rfl) (by kernel_rfl) (Or.inl ⟨by rfl, ?_⟩) hS ?_
        · intro w' hS'
          have s0 := hS'
          go_simp
        change wpAnyU _ _ _ _ _ _ _ _ (Act.put _ (some 37) _) _
        simp only [Act.put, List.setIfInBounds_toArray, List.set_cons_succ, List.set_cons_zero]
        refine wpAnyU_take (i := 2) (v := (.pointer (some ⟨a, 0, none⟩))) rfl (by kernel_rfl) (fun _ _ _ h => h) (leads_of [[7]] (by kernel_rfl)) (by kernel_rfl) (by kernel_rfl) (by kernel_rfl) (Or.inl ⟨by rfl, ?_⟩) hS ?_
        · intro w' hS'
          have s0 := hS'
          go_simp
        change wpAnyU _ _ _ _ _ _ _ _ (Act.put _ (some 38) _) _
        simp only [Act.put, List.setIfInBounds_toArray, List.set_cons_succ, List.set_cons_zero]
        refine wpAnyU_all (rs := [3]) (by kernel_rfl) (by simp) ?_
        intro j hj
        obtain rfl := List.mem_singleton.1 hj
        clear hj
        refine wpOp_shut rfl (fun K' HK => ?_)
        refine step_call rfl (f := 70) rfl Try.func70 (by kernel_rfl) rfl #[.pointer (some ⟨a, 0, none⟩)] (by simp only [List.map_toArray, List.map_cons, List.map_nil]; rfl) ?_
        refine (name_c HD.out.p).mono ?_
        rintro e w1 ⟨rfl, hN⟩
        refine ⟨_, rfl, ?_⟩
        obtain ⟨ok1, v1, h1, m1⟩ := HD.out.call hN
        have H1 := hid h1
        have B1 := hid (BD.out.mv m1)
        have R1 := hid (RD.out.mv m1)
        clear hN h1 m1
        have z3 := B1.out.c (i := 3) (u := .slice none 0 0) rfl
        refine HK.out _ _ ⟨.inr ?_, ?_⟩
        · exact z3
        clear HK K'
        have hS := z3
        change wpAnyU _ _ _ _ _ _ _ _ (Act.put _ (some 39) _) _
        simp only [Act.put, List.setIfInBounds_toArray, List.set_cons_succ, List.set_cons_zero]
        refine wpAnyU_all (rs := [4]) (by kernel_rfl) (by simp) ?_
        intro j hj
        obtain rfl := List.mem_singleton.1 hj
        clear hj
        refine wpOp_shut rfl (fun K' HK => ?_)
        go_simp
        have HB6 := hid (below_alloc (Below.refl w1.heap.size w1) (.cells #[.string Sx.nameT] 9))
        refine HK.out _ _ ⟨.inr ?_, ?_⟩
        · exact keepc HB6.out z3
        clear HK K'
        have hS := keepc HB6.out z3
        try simp only [Act.put, List.setIfInBounds_toArray, List.set_cons_succ, List.set_cons_zero]
        refine wpAnyU_all (rs := [5]) (by kernel_rfl) (by simp) ?_
        intro j hj
        obtain rfl := List.mem_singleton.1 hj
        clear hj
        refine wpOp_shut rfl (fun K' HK => ?_)
        refine SR.append_step ?h0q11 (.tmp 37) (.tmp 40) ?h1q11 H1.out R1.out ?c1q11 ?c2q11 ?c3q11 ?c4q11 ?c5q11 ?_
        (case h0q11 => rfl)
        (case h1q11 => rfl)
        (case c1q11 => have := HBW.out; omega)
        (case c2q11 => exact B1.out.lt)
        (case c3q11 => simp)
        (case c4q11 => rfl)
        (case c5q11 => rfl)
        intro val1 w2 h2 r2 hg
        obtain ⟨A2, c2, e2⟩ := r2.slice
        obtain rfl : val1 = .slice A2 1 c2 := e2
        have B2 := hid (B1.out.grown R1.out (Nat.lt_succ_self _) hg)
        have H2 := hid h2
        have R2 := hid r2
        clear hg h2 r2
        have zz3 := B2.out.c (i := 3) (u := .slice none 0 0) rfl
        have fz3 := B2.out.f 3
        refine HK.out _ _ ⟨.inr ?_, ?_⟩
        · exact zz3
        clear HK K'
        have hS := zz3
        change wpAnyU _ _ _ _ _ _ _ _ (Act.put _ (some 41) _) _
        simp only [Act.put, List.setIfInBounds_toArray, List.set_cons_succ, List.set_cons_zero]
        refine wpAnyU_take (i := 6) (v := (.pointer (some ⟨b, 3, none⟩))) rfl (by kernel_rfl) (fun _ _ _ h => h) (leads_of [[7]] (by kernel_rfl)) (by kernel_rfl) (by kernel_rfl) (by kernel_rfl) (Or.inl ⟨by rfl, ?_⟩) hS ?_
        · intro w' hS'
          have s0 := hS'
          go_simp
        change wpAnyU _ _ _ _ _ _ _ _ (Act.put _ (some 42) _) _
        simp only [Act.put, List.setIfInBounds_toArray, List.set_cons_succ, List.set_cons_zero]
        refine wpAnyU_all (rs := [7]) (by kernel_rfl) (by simp) ?_
        intro j hj
        obtain rfl := List.mem_singleton.1 hj
        clear hj
        refine wpOp_shut rfl (fun K' HK => ?_)
        go_simp
        refine HK.out _ _ ⟨.inl (by decide), ?_⟩
        clear HK K'
        refine wpAnyU_done (by kernel_rfl) ?_ _
        have H3 := hid (H2.out.setB B2.out 3 (.slice A2 1 c2))
        have R3 := hid (R2.out.setB (Nat.lt_succ_self _) 3 (.slice A2 1 c2))
        have B3 := hid (B2.out.set (cs' := #[.int .i64 10, .int .i64 0, .string S2.nameT, .slice A2 1 c2, .slice none 0 0, .int .i64 (S.t.at_ : Nat)]) 3 (.slice A2 1 c2) rfl)
        clear hS HD BD RD H1 B1 R1 HB6 H2 B2 R2 z3 zz3 fz3 y3
        go_wp2_with fail
        go_loopg [] n (fun g wx => ∃ okx vx Sy acc val, g ≤ n ∧ Box (namesL g acc Sy = some (x1, x2)) ∧ Box (At w a ok wx okx vx Sy) ∧ Box (NB w.heap.size wx a okx b #[.int .i64 10, .int .i64 0, .string S2.nameT, val, .slice none 0 0, .int .i64 (S.t.at_ : Nat)]) ∧ Box (SR (b + 1) wx a okx val acc))
        case atStart => exact ⟨_, _, _, _, _, Nat.le_refl _, HX, H3, B3, R3⟩
        case round =>
          clear HX H3 B3 R3
          obtain ⟨okx, vx, Sy, acc, val, hgk, HX, H0, B, R⟩ := hrel
          have hx := HX.out
          clear HX
          cases gk with
          | zero => cases hx
          | succ gk =>
          unfold namesL at hx
          go_wp2_with fail
          rcases Bool.eq_false_or_eq_true (Sy.hasB (⟨#[44]⟩ : ByteArray)) with hc | hc
          · skip
            rw [if_pos hc] at hx
            split at hx
            rotate_left
            · cases hx
            rename_i hlen
            have HLEN := hid hlen
            have HX := hid hx
            clear hx hlen
            refine (has_hit H0.out.p (⟨#[44]⟩ : ByteArray) hc).mono ?_
            rintro e w1 ⟨rfl, hN⟩
            obtain ⟨ok1, v1, h1, m1⟩ := H0.out.call hN
            have H1 := hid h1
            replace B := hid (B.out.mv m1)
            replace R := hid (R.out.mv m1)
            clear hN h1 m1 H0
            clear hc
            obtain ⟨A0, c0, e0⟩ := R.out.slice
            subst e0
            obtain ⟨Sx, eSx⟩ : ∃ Sx, Sx = Sy.move := ⟨_, rfl⟩
            rw [← eSx] at HX H1
            clear eSx
            go_upto_region 11 with fail
            have y3 := B.out.c (i := 3) (u := .slice A0 acc.length c0) rfl
            have HD := hid (H1.out.below (Below.refl w1.heap.size w1).drew)
            have BD := hid (B.out.below (Below.refl w1.heap.size w1).drew)
            have RD := hid (R.out.below (Below.refl w1.heap.size w1).drew)
            clear H1 B R
            refine wp_region_until [7] (S := (fun w' => w'.cell? ⟨b, 3, none⟩ = some (.slice A0 acc.length c0))) (by kernel_rfl) ?_ ?_
            · go_keep
            intro hS
            refine wpAnyU_take (i := 0) (v := (.pointer (some ⟨b, 3, none⟩))) rfl (by kernel_rfl) (fun _ _ _ h => h) (leads_of [[7]] (by kernel_rfl)) (by kernel_rfl) (by kernel_rfl) (by kernel_rfl) (Or.inl ⟨by rfl, ?_⟩) hS ?_
            · intro w' hS'
              have s0 := hS'
              go_simp
            change wpAnyU _ _ _ _ _ _ _ _ (Act.put _ (some 45) _) _
            simp only [Act.put, List.setIfInBounds_toArray, List.set_cons_succ, List.set_cons_zero]
            refine wpAnyU_take (i := 1) (v := (.slice A0 acc.length c0)) rfl (by kernel_rfl) (fun _ _ _ h => h) (leads_of [[7]] (by kernel_rfl)) (by kernel_rfl) (by kernel_rfl) (by kernel_rfl) (Or.inl ⟨by rfl, ?_⟩) hS ?_
            · intro w' hS'
              have s0 := hS'
              go_simp
            change wpAnyU _ _ _ _ _ _ _ _ (Act.put _ (some 46) _) _
            simp only [Act.put, List.setIfInBounds_toArray, List.set_cons_succ, List.set_cons_zero]
            refine wpAnyU_take (i := 2) (v := (.pointer (some ⟨a, 0, none⟩))) rfl (by kernel_rfl) (fun _ _ _ h => h) (leads_of [[7]] (by kernel_rfl)) (by kernel_rfl) (by kernel_rfl) (by kernel_rfl) (Or.inl ⟨by rfl, ?_⟩) hS ?_
            · intro w' hS'
              have s0 := hS'
              go_simp
            change wpAnyU _ _ _ _ _ _ _ _ (Act.put _ (some 47) _) _
            simp only [Act.put, List.setIfInBounds_toArray, List.set_cons_succ, List.set_cons_zero]
            refine wpAnyU_all (rs := [3]) (by kernel_rfl) (by simp) ?_
            intro j hj
            obtain rfl := List.mem_singleton.1 hj
            clear hj
            refine wpOp_shut rfl (fun K' HK => ?_)
            refine step_call rfl (f := 70) rfl Try.func70 (by kernel_rfl) rfl #[.pointer (some ⟨a, 0, none⟩)] (by simp only [List.map_toArray, List.map_cons, List.map_nil]; rfl) ?_
            refine (name_c HD.out.p).mono ?_
            rintro e w7 ⟨rfl, hN⟩
            refine ⟨_, rfl, ?_⟩
            obtain ⟨ok1, v1, h1, m1⟩ := HD.out.call hN
            have H1 := hid h1
            have B1 := hid (BD.out.mv m1)
            have R1 := hid (RD.out.mv m1)
            clear hN h1 m1
            have z3 := B1.out.c (i := 3) (u := .slice A0 acc.length c0) rfl
            refine HK.out _ _ ⟨.inr ?_, ?_⟩
            · exact z3
            clear HK K'
            have hS := z3
            change wpAnyU _ _ _ _ _ _ _ _ (Act.put _ (some 48) _) _
            simp only [Act.put, List.setIfInBounds_toArray, List.set_cons_succ, List.set_cons_zero]
            refine wpAnyU_all (rs := [4]) (by kernel_rfl) (by simp) ?_
            intro j hj
            obtain rfl := List.mem_singleton.1 hj
            clear hj
            refine wpOp_shut rfl (fun K' HK => ?_)
            go_simp
            have HB6 := hid (below_alloc (Below.refl w7.heap.size w7) (.cells #[.string Sx.nameT] 9))
            refine HK.out _ _ ⟨.inr ?_, ?_⟩
            · exact keepc HB6.out z3
            clear HK K'
            have hS := keepc HB6.out z3
            try simp only [Act.put, List.setIfInBounds_toArray, List.set_cons_succ, List.set_cons_zero]
            refine wpAnyU_all (rs := [5]) (by kernel_rfl) (by simp) ?_
            intro j hj
            obtain rfl := List.mem_singleton.1 hj
            clear hj
            refine wpOp_shut rfl (fun K' HK => ?_)
            refine SR.append_step ?h0q12 (.tmp 46) (.tmp 49) ?h1q12 H1.out R1.out ?c1q12 ?c2q12 ?c3q12 ?c4q12 ?c5q12 ?_
            (case h0q12 => rfl)
            (case h1q12 => rfl)
            (case c1q12 => have := HBW.out; omega)
            (case c2q12 => exact B1.out.lt)
            (case c3q12 => exact HLEN.out)
            (case c4q12 => rfl)
            (case c5q12 => rfl)
            intro val1 w2 h2 r2 hg
            obtain ⟨A2, c2, e2⟩ := r2.slice
            rw [List.length_append, List.length_singleton] at e2
            subst e2
            have B2 := hid (B1.out.grown R1.out (Nat.lt_succ_self _) hg)
            have H2 := hid h2
            have R2 := hid r2
            clear hg h2 r2
            have zz3 := B2.out.c (i := 3) (u := .slice A0 acc.length c0) rfl
            have fz3 := B2.out.f 3
            refine HK.out _ _ ⟨.inr ?_, ?_⟩
            · exact zz3
            clear HK K'
            have hS := zz3
            change wpAnyU _ _ _ _ _ _ _ _ (Act.put _ (some 50) _) _
            simp only [Act.put, List.setIfInBounds_toArray, List.set_cons_succ, List.set_cons_zero]
            refine wpAnyU_take (i := 6) (v := (.pointer (some ⟨b, 3, none⟩))) rfl (by kernel_rfl) (fun _ _ _ h => h) (leads_of [[7]] (by kernel_rfl)) (by kernel_rfl) (by kernel_rfl) (by kernel_rfl) (Or.inl ⟨by rfl, ?_⟩) hS ?_
            · intro w' hS'
              have s0 := hS'
              go_simp
            change wpAnyU _ _ _ _ _ _ _ _ (Act.put _ (some 51) _) _
            simp only [Act.put, List.setIfInBounds_toArray, List.set_cons_succ, List.set_cons_zero]
            refine wpAnyU_all (rs := [7]) (by kernel_rfl) (by simp) ?_
            intro j hj
            obtain rfl := List.mem_singleton.1 hj
            clear hj
            refine wpOp_shut rfl (fun K' HK => ?_)
            go_simp
            refine HK.out _ _ ⟨.inl (by decide), ?_⟩
            clear HK K'
            refine wpAnyU_done (by kernel_rfl) ?_ _
            have H3 := hid (H2.out.setB B2.out 3 (.slice A2 (acc.length + 1) c2))
            have R3 := hid (R2.out.setB (Nat.lt_succ_self _) 3 (.slice A2 (acc.length + 1) c2))
            have B3 := hid (B2.out.set (cs' := #[.int .i64 10, .int .i64 0, .string S2.nameT, .slice A2 (acc.length + 1) c2, .slice none 0 0, .int .i64 (S.t.at_ : Nat)]) 3 (.slice A2 (acc.length + 1) c2) rfl)
            clear hS HD BD RD H1 B1 R1 HB6 H2 B2 R2 z3 zz3 fz3 y3
            go_wp2_with fail
            go_roundg gk
            case measure => omega
            case rel => exact ⟨_, _, _, _, _, by omega, HX, H3, B3, R3⟩
          · skip
            rw [if_f hc] at hx
            obtain ⟨rfl, rfl⟩ : acc = x1 ∧ Sy = x2 := by injection hx with hx; injection hx with h1 h2; exact ⟨h1, h2⟩
            clear hx
            refine (has_miss H0.out.p (⟨#[44]⟩ : ByteArray) hc).mono ?_
            rintro e w1 ⟨rfl, hN⟩
            obtain ⟨ok1, v1, h1, m1⟩ := H0.out.call hN
            have H1 := hid h1
            replace B := hid (B.out.mv m1)
            replace R := hid (R.out.mv m1)
            clear hN h1 m1 H0
            clear hc
            obtain ⟨A0, c0, e0⟩ := R.out.slice
            subst e0
            go_wp2_with fail
            refine (must_c H1.out.p (⟨#[41]⟩ : ByteArray)).mono ?_
            rintro e w2 ⟨rfl, hN⟩
            obtain ⟨ok2, v2, h2, m2⟩ := H1.out.call hN
            have H2 := hid h2
            replace B := hid (B.out.mv m2)
            replace R := hid (R.out.mv m2)
            clear hN h2 m2 H1
            go_wp2_with fail
            refine (must_c H2.out.p (⟨#[123]⟩ : ByteArray)).mono ?_
            rintro e w3 ⟨rfl, hN⟩
            obtain ⟨ok3, v3, h3, m3⟩ := H2.out.call hN
            have H3 := hid h3
            replace B := hid (B.out.mv m3)
            replace R := hid (R.out.mv m3)
            clear hN h3 m3 H2
            go_wp2_with fail
            refine (hG.list HY.out H3.out.p).mono ?_
            rintro e w4 ⟨vk, ok4, v4, rfl, g1, l1⟩
            obtain ⟨A1, c1', rfl⟩ := l1.slice
            obtain ⟨h1, m1⟩ := H3.out.trans g1
            have HBL := hid B.out.lt
            have HLE := hid H3.out.kp.size
            replace B := hid (B.out.mv m1)
            replace R := hid (R.out.mv m1)
            have H4 := hid h1
            have L := hid l1
            clear g1 l1 h1 m1 H3
            have n4 := B.out.c (i := 4) (u := .slice none 0 0) rfl
            have fz4 := B.out.f 4
            go_wp2_with fail
            clear n4 fz4
            replace L := hid (L.out.setB HBL.out 4 (.slice A1 y2.length c1'))
            replace R := hid (R.out.setB (Nat.lt_succ_self _) 4 (.slice A1 y2.length c1'))
            replace H4 := hid (H4.out.setB B.out 4 (.slice A1 y2.length c1'))
            replace B := hid (B.out.set (cs' := #[.int .i64 10, .int .i64 0, .string S2.nameT, .slice A0 acc.length c0, .slice A1 y2.length c1', .int .i64 (S.t.at_ : Nat)]) 4 (.slice A1 y2.length c1') rfl)
            refine (must_c H4.out.p (⟨#[125]⟩ : ByteArray)).mono ?_
            rintro e w5 ⟨rfl, hN⟩
            obtain ⟨ok5, v5, h5, m5⟩ := H4.out.call hN
            have H5 := hid h5
            replace L := hid (L.out.mv m5)
            replace B := hid (B.out.mv m5)
            replace R := hid (R.out.mv m5)
            clear hN h5 m5 H4
            have n0 := B.out.c (i := 0) (u := .int .i64 10) rfl
            have n1 := B.out.c (i := 1) (u := .int .i64 0) rfl
            have n2 := B.out.c (i := 2) (u := .string S2.nameT) rfl
            have n3 := B.out.c (i := 3) (u := .slice A0 acc.length c0) rfl
            have n4 := B.out.c (i := 4) (u := .slice A1 y2.length c1') rfl
            have n5 := B.out.c (i := 5) (u := .int .i64 (S.t.at_ : Nat)) rfl
            go_wp2_with fail
            clear n0 n1 n2 n3 n4 n5
            refine (put_both H5.out (R.out.le (by have := HBW.out; omega)) (L.out.le HLE.out) HRR.out).mono ?_
            rintro e wz ⟨rfl, hN⟩
            have HN := hid hN
            clear hN
            go_wp2_with fail
            go_ret
            exact ⟨ret_nat rfl, HN.out⟩
end
end Go.Proofs.Ytibepkblgliooaa.Q
