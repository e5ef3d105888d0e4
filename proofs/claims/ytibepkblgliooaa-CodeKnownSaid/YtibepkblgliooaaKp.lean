/- What a proof further on needs (part p). -/
import Derived.Test.YtibepkblgliooaaKg
set_option linter.unusedVariables false
namespace Go.Proofs.Ytibepkblgliooaa.Q
open Go.RowKit
open Go.Proofs.YtibepkblgliooaaW.PrintWords
section
variable {n k : Nat} {ks : List Nat} {S S' : Ps} {w : World} {a : Nat} {ok : Nat → Prop} {v : Value}
set_option maxHeartbeats 6400000 in
set_option maxRecDepth 100000 in
theorem obj_w {at_ : Nat} (G : ∀ m, m < n → Good m) (hr : run n (.obj [] [] at_) S = some (k, ks, S')) (h : PI w a ok v S) : Calls Try.prog 103 #[ptr a, .agg #[.int .i64 0, .int .i64 0, .string ⟨#[]⟩, .slice none 0 0, .slice none 0 0, .int .i64 at_]] w (Ret w a ok k S') := by
  have HG := hid G
  have HR0 := hid hr
  have H0 := hid (At.start h)
  clear G hr h
  unfold ptr
  go_enter Try.func103, Try.ntmps103
  go_wp2_with fail
  obtain ⟨b, hbw⟩ : ∃ b, b = w.heap.size := ⟨_, rfl⟩
  have B : Box (NB w.heap.size (w.alloc (.cells #[.int .i64 8, .int .i64 0, .string ⟨#[]⟩, .slice none 0 0, .slice none 0 0, .int .i64 (at_ : Nat)] 37)) a ok b #[.int .i64 8, .int .i64 0, .string ⟨#[]⟩, .slice none 0 0, .slice none 0 0, .int .i64 (at_ : Nat)]) := hid (by rw [hbw]; exact NB.new H0.out _)
  have R := hid (SR.nil (b + 1) (w.alloc (.cells #[.int .i64 8, .int .i64 0, .string ⟨#[]⟩, .slice none 0 0, .slice none 0 0, .int .i64 (at_ : Nat)] 37)) a ok)
  have L := hid (LR.nil (b + 1) (w.alloc (.cells #[.int .i64 8, .int .i64 0, .string ⟨#[]⟩, .slice none 0 0, .slice none 0 0, .int .i64 (at_ : Nat)] 37)) a ok)
  replace H0 := hid (H0.out.alloc (.cells #[.int .i64 8, .int .i64 0, .string ⟨#[]⟩, .slice none 0 0, .slice none 0 0, .int .i64 (at_ : Nat)] 37))
  rw [← hbw]
  have HBW := hid hbw
  clear hbw
  go_loopg [] n (fun g wx => ∃ okx vx Sx names kids vn vk, g ≤ n ∧ Box (run g (.obj names kids at_) Sx = some (k, ks, S')) ∧ Box (At w a ok wx okx vx Sx) ∧ Box (NB w.heap.size wx a okx b #[.int .i64 8, .int .i64 0, .string ⟨#[]⟩, vn, vk, .int .i64 (at_ : Nat)]) ∧ Box (SR (b + 1) wx a okx vn names) ∧ Box (LR (b + 1) wx a okx vk kids))
  case atStart => exact ⟨_, _, _, _, _, _, _, Nat.le_refl _, HR0, H0, B, R, L⟩
  case round =>
    clear HR0 H0 B R L
    obtain ⟨okx, vx, Sx, names, kids, vn, vk, hgk, HR, H0, B, R, L⟩ := hrel
    have hr := HR.out
    clear HR
    cases gk with
    | zero => cases hr
    | succ gk =>
    have hG := HG.out gk (by omega)
    clear HG
    change objF (run gk) names kids at_ Sx = _ at hr
    unfold objF at hr
    obtain ⟨A3, c3, e3⟩ := R.out.slice
    subst e3
    obtain ⟨A4, c4, e4⟩ := L.out.slice
    subst e4
    have HR := hid hr
    clear hr
    go_wp2_with fail
    rcases Bool.eq_false_or_eq_true (Sx.is (⟨#[125]⟩ : ByteArray)) with hc | hc
    · skip
      cases kids with
      | nil =>
        have hr := HR.out
        clear HR
        rw [if_neg (by simp [hc])] at hr
        have HI := hid (is_hit H0.out.p (⟨#[125]⟩ : ByteArray) hc)
        refine HI.out.mono ?_
        rintro e w' ⟨rfl, rfl⟩
        clear HI
        clear hc hG
        have n4 := B.out.c (i := 4) (u := .slice A4 0 c4) rfl
        unfold objEnd at hr
        obtain ⟨hr2, rfl⟩ := one1_some hr
        have HRR := hid hr2
        clear hr hr2
        go_wp2_with fail
        clear n4
        refine (must_c H0.out.p (⟨#[125]⟩ : ByteArray)).mono ?_
        rintro e w1 ⟨rfl, hN⟩
        obtain ⟨ok1, v1, h1, m1⟩ := H0.out.call hN
        have H1 := hid h1
        replace B := hid (B.out.mv m1)
        replace R := hid (R.out.mv m1)
        replace L := hid (L.out.mv m1)
        clear hN h1 m1 H0
        have n0 := B.out.c (i := 0) (u := .int .i64 8) rfl
        have n1 := B.out.c (i := 1) (u := .int .i64 0) rfl
        have n2 := B.out.c (i := 2) (u := .string ⟨#[]⟩) rfl
        have n3 := B.out.c (i := 3) (u := .slice A3 names.length c3) rfl
        have n4 := B.out.c (i := 4) (u := .slice A4 0 c4) rfl
        have n5 := B.out.c (i := 5) (u := .int .i64 (at_ : Nat)) rfl
        go_wp2_with fail
        clear n0 n1 n2 n3 n4 n5
        refine (put_both H1.out (R.out.le (by have := HBW.out; omega)) (L.out.le (by have := HBW.out; omega)) HRR.out).mono ?_
        rintro e wz ⟨rfl, hN⟩
        have HN := hid hN
        clear hN
        go_wp2_with fail
        go_ret
        exact ⟨ret_nat rfl, HN.out⟩
      | cons k0 kt =>
        obtain ⟨kids, hkids⟩ : ∃ kids, kids = k0 :: kt := ⟨_, rfl⟩
        have hpos : (0 : Int) < (kids.length : Int) := by rw [hkids]; simp
        have hr := HR.out
        clear HR
        rw [if_pos (by simp)] at hr
        rw [← hkids] at hr L B
        have HI := hid (is_hit H0.out.p (⟨#[125]⟩ : ByteArray) hc)
        refine HI.out.mono ?_
        rintro e w' ⟨rfl, rfl⟩
        clear HI
        clear hc hkids
        have n4 := B.out.c (i := 4) (u := .slice A4 kids.length c4) rfl
        have c1 := H0.out.p.c1
        have c2 := H0.out.p.c2
        have c3 := H0.out.p.c3
        have c4 := H0.out.p.c4
        have c5 := H0.out.p.c5
        have c9 := H0.out.p.c9
        rcases Bool.eq_false_or_eq_true (!decide (Sx.t.kind = 3) && !decide (Sx.t.kind = 4) && !decide (Sx.t.kind = 2)) with hk0 | hk0
        · skip
          have hk : ¬ Sx.t.kind = 3 ∧ ¬ Sx.t.kind = 4 ∧ ¬ Sx.t.kind = 2 := by simpa [and_assoc] using hk0
          rw [if_pos hk0] at hr
          obtain ⟨hk1, hk2, hk3⟩ := hk
          have hk4 : (Sx.t.kind != 3) = true := by simpa using hk1
          have hk5 : (Sx.t.kind != 4) = true := by simpa using hk2
          have hk6 : (Sx.t.kind != 2) = true := by simpa using hk3
          have la := H0.out.p.lt
          have f9 := H0.out.p.f 9
          clear hk0 hk1 hk2 hk3
          obtain ⟨rfl, rfl, rfl⟩ := some3 hr
          clear hr
          clear hG
          go_wp2_with fail
          go_ret
          exact ⟨ret_nat rfl, (H0.out.spoilA.alloc (.cells #[.int .i64 Sx.t.kind, .string Sx.t.text, .int .i64 Sx.t.num, .int .i64 (Sx.t.at_ : Nat), .bool Sx.t.line] 55)).nx⟩
        · skip
          have hk : Sx.t.kind = 3 ∨ Sx.t.kind = 4 ∨ Sx.t.kind = 2 := by simp only [Bool.and_eq_false_iff, Bool.not_eq_false', decide_eq_true_eq] at hk0; rcases hk0 with (h | h) | h <;> simp [h]
          rw [if_f hk0] at hr
          clear hk0
          have HR := hid hr
          clear hr
          rcases hk with hk | hk | hk
          · skip
            rw [hk] at c1
            clear hk
            have la := H0.out.p.lt
            have hr := HR.out
            clear HR
            rcases Bool.eq_false_or_eq_true (Sx.bad) with hd | hd
            · skip
              rw [if_pos hd] at hr
              rw [hd] at c9
              clear hd hG
              obtain ⟨rfl, rfl, rfl⟩ := some3 hr
              clear hr
              go_wp2_with fail
              go_ret
              exact ⟨ret_nat rfl, (H0.out.alloc (.cells #[.int .i64 3, .string Sx.t.text, .int .i64 Sx.t.num, .int .i64 (Sx.t.at_ : Nat), .bool Sx.t.line] 55)).nx⟩
            · skip
              rw [if_f hd] at hr
              rw [hd] at c9
              clear hd
              obtain ⟨⟨x1, x2, x3⟩, hx, hr2⟩ := Option.bind_eq_some_iff.1 hr
              have HX := hid hx
              clear hr hx
              dsimp only at hr2
              have hr := hr2
              clear hr2
              split at hr
              rotate_left
              · cases hr
              rename_i hlen
              have HLEN := hid hlen
              have HR := hid hr
              clear hr hlen
              go_wp2_with fail
              clear n4 hpos c1 c2 c3 c4 c5 c9 la
              have hnb : ¬ okx wr.heap.size := fun h => by have := H0.out.p.lo _ h; omega
              have hna : wr.heap.size ≠ a := fun e => by have := H0.out.p.lt; omega
              have hba : wr.heap.size ≠ b := fun e => by have := B.out.lt; omega
              have t1 : (wr.alloc (.cells #[.int .i64 3, .string Sx.t.text, .int .i64 Sx.t.num, .int .i64 (Sx.t.at_ : Nat), .bool Sx.t.line] 55)).cell? ⟨wr.heap.size, 1, none⟩ = some (.string Sx.t.text) := (cell_of_row _ _ 1 _ _ _ (heap_alloc_new wr (.cells #[.int .i64 3, .string Sx.t.text, .int .i64 Sx.t.num, .int .i64 (Sx.t.at_ : Nat), .bool Sx.t.line] 55))).trans rfl
              replace H0 := hid (H0.out.alloc (.cells #[.int .i64 3, .string Sx.t.text, .int .i64 Sx.t.num, .int .i64 (Sx.t.at_ : Nat), .bool Sx.t.line] 55))
              replace B := hid (B.out.below ((Below.refl _ _).alloc (Nat.le_refl _) (.cells #[.int .i64 3, .string Sx.t.text, .int .i64 Sx.t.num, .int .i64 (Sx.t.at_ : Nat), .bool Sx.t.line] 55)))
              replace R := hid (R.out.below ((Below.refl _ _).alloc (Nat.le_refl _) (.cells #[.int .i64 3, .string Sx.t.text, .int .i64 Sx.t.num, .int .i64 (Sx.t.at_ : Nat), .bool Sx.t.line] 55)))
              replace L := hid (L.out.below ((Below.refl _ _).alloc (Nat.le_refl _) (.cells #[.int .i64 3, .string Sx.t.text, .int .i64 Sx.t.num, .int .i64 (Sx.t.at_ : Nat), .bool Sx.t.line] 55)))
              refine (move_c H0.out.p).mono ?_
              rintro e w1 ⟨rfl, hN⟩
              obtain ⟨ok1, v1, h1, m1⟩ := H0.out.call hN
              have H1 := hid h1
              replace B := hid (B.out.mv m1)
              replace R := hid (R.out.mv m1)
              replace L := hid (L.out.mv m1)
              have t0 := t1
              replace t1 := m1.cell t0 hna hnb
              replace hnb : ¬ ok1 wr.heap.size := fun h => (m1.sub _ h).elim hnb (fun q => by have := World.block_lt_of_cell? _ _ t0; simp only at this; omega)
              clear t0
              clear hN h1 m1 H0
              go_wp2_with fail
              refine (must_c H1.out.p (⟨#[58]⟩ : ByteArray)).mono ?_
              rintro e w2 ⟨rfl, hN⟩
              obtain ⟨ok2, v2, h2, m2⟩ := H1.out.call hN
              have H2 := hid h2
              replace B := hid (B.out.mv m2)
              replace R := hid (R.out.mv m2)
              replace L := hid (L.out.mv m2)
              have t0 := t1
              replace t1 := m2.cell t0 hna hnb
              replace hnb : ¬ ok2 wr.heap.size := fun h => (m2.sub _ h).elim hnb (fun q => by have := World.block_lt_of_cell? _ _ t0; simp only at this; omega)
              clear t0
              clear hN h2 m2 H1
              have n3 := B.out.c (i := 3) (u := .slice A3 names.length c3) rfl
              go_upto_region 11 with (at_builtin; refine SR.append_wp rfl _ _ rfl H2.out R.out (by have := HBW.out; omega) B.out.lt HLEN.out.1 rfl rfl ?_; intro val1 w3 h3 r3 hg; obtain ⟨A5, c5', e5⟩ := r3.slice; rw [List.length_append, List.length_singleton] at e5; subst e5; have B3 := hid (B.out.grown R.out (Nat.lt_succ_self _) hg); have L3 := hid (L.out.grownS R.out hg); have H3 := hid h3; have R3 := hid r3; clear hg h3 r3; have m3 := B3.out.c (i := 3) (u := .slice A3 names.length c3) rfl; have fz3 := B3.out.f 3)
              replace H3 := hid (H3.out.setB B3.out 3 (.slice A5 (names.length + 1) c5'))
              replace R3 := hid (R3.out.setB (Nat.lt_succ_self _) 3 (.slice A5 (names.length + 1) c5'))
              replace L3 := hid (L3.out.setB (Nat.lt_succ_self _) 3 (.slice A5 (names.length + 1) c5'))
              replace B3 := hid (B3.out.set (cs' := #[.int .i64 8, .int .i64 0, .string ⟨#[]⟩, .slice A5 (names.length + 1) c5', .slice A4 kids.length c4, .int .i64 (at_ : Nat)]) 3 (.slice A5 (names.length + 1) c5') rfl)
              clear n3 m3 fz3 t1 hnb hna hba H2 B R L
              generalize (w3.setCell ⟨b, 3, none⟩ (.slice A5 (names.length + 1) c5')) = W3 at H3 R3 L3 B3 ⊢
              have y4 := B3.out.c (i := 4) (u := .slice A4 kids.length c4) rfl
              have HD := hid (H3.out.below (Below.refl W3.heap.size W3).drew)
              have BD := hid (B3.out.below (Below.refl W3.heap.size W3).drew)
              have RD := hid (R3.out.below (Below.refl W3.heap.size W3).drew)
              have LD := hid (L3.out.below (Below.refl W3.heap.size W3).drew)
              clear H3 B3 R3 L3
              refine wp_region_until [7] (S := (fun w' => w'.cell? ⟨b, 4, none⟩ = some (.slice A4 kids.length c4))) (by kernel_rfl) ?_ ?_
              · go_keep
              intro hS
              refine wpAnyU_take (i := 0) (v := (.pointer (some ⟨b, 4, none⟩))) rfl (by kernel_rfl) (fun _ _ _ h => h) (leads_of [[7]] (by kernel_rfl)) (by kernel_rfl) (by kernel_rfl) (by kernel_rfl) (Or.inl ⟨by rfl, ?_⟩) hS ?_
              · intro w' hS'
                have s0 := hS'
                go_simp
              change wpAnyU _ _ _ _ _ _ _ _ (Act.put _ (some 52) _) _
              simp only [Act.put, List.setIfInBounds_toArray, List.set_cons_succ, List.set_cons_zero]
              refine wpAnyU_take (i := 1) (v := (.slice A4 kids.length c4)) rfl (by kernel_rfl) (fun _ _ _ h => h) (leads_of [[7]] (by kernel_rfl)) (by kernel_rfl) (by kernel_rfl) (by kernel_rfl) (Or.inl ⟨by rfl, ?_⟩) hS ?_
              · intro w' hS'
                have s0 := hS'
                go_simp
              change wpAnyU _ _ _ _ _ _ _ _ (Act.put _ (some 53) _) _
              simp only [Act.put, List.setIfInBounds_toArray, List.set_cons_succ, List.set_cons_zero]
              refine wpAnyU_take (i := 2) (v := (.pointer (some ⟨a, 0, none⟩))) rfl (by kernel_rfl) (fun _ _ _ h => h) (leads_of [[7]] (by kernel_rfl)) (by kernel_rfl) (by kernel_rfl) (by kernel_rfl) (Or.inl ⟨by rfl, ?_⟩) hS ?_
              · intro w' hS'
                have s0 := hS'
                go_simp
              change wpAnyU _ _ _ _ _ _ _ _ (Act.put _ (some 54) _) _
              simp only [Act.put, List.setIfInBounds_toArray, List.set_cons_succ, List.set_cons_zero]
              refine wpAnyU_all (rs := [3]) (by kernel_rfl) (by simp) ?_
              intro j hj
              obtain rfl := List.mem_singleton.1 hj
              clear hj
              refine wpOp_shut rfl (fun K' HK => ?_)
              refine step_call rfl (f := 67) rfl Try.func67 (by kernel_rfl) rfl #[.pointer (some ⟨a, 0, none⟩)] (by simp only [List.map_toArray, List.map_cons, List.map_nil]; rfl) ?_
              refine (hG.e HX.out HD.out.p).mono ?_
              rintro e w1 ⟨rfl, hN⟩
              refine ⟨_, rfl, ?_⟩
              obtain ⟨ok1, v1, h1, m1⟩ := HD.out.call hN
              have H1 := hid h1
              have B1 := hid (BD.out.mv m1)
              have R1 := hid (RD.out.mv m1)
              have L1 := hid (LD.out.mv m1)
              clear hN h1 m1
              have z4 := B1.out.c (i := 4) (u := .slice A4 kids.length c4) rfl
              refine HK.out _ _ ⟨.inr ?_, ?_⟩
              · exact z4
              clear HK K'
              have hS := z4
              change wpAnyU _ _ _ _ _ _ _ _ (Act.put _ (some 55) _) _
              simp only [Act.put, List.setIfInBounds_toArray, List.set_cons_succ, List.set_cons_zero]
              refine wpAnyU_all (rs := [4]) (by kernel_rfl) (by simp) ?_
              intro j hj
              obtain rfl := List.mem_singleton.1 hj
              clear hj
              refine wpOp_shut rfl (fun K' HK => ?_)
              go_simp
              have HB6 := hid (below_alloc (Below.refl w1.heap.size w1) (.cells #[.int .i64 (x1 : Nat)] 3))
              refine HK.out _ _ ⟨.inr ?_, ?_⟩
              · exact keepc HB6.out z4
              clear HK K'
              have hS := keepc HB6.out z4
              try simp only [Act.put, List.setIfInBounds_toArray, List.set_cons_succ, List.set_cons_zero]
              refine wpAnyU_all (rs := [5]) (by kernel_rfl) (by simp) ?_
              intro j hj
              obtain rfl := List.mem_singleton.1 hj
              clear hj
              refine wpOp_shut rfl (fun K' HK => ?_)
              refine LR.append_step ?h0q13 (.tmp 53) (.tmp 56) ?h1q13 H1.out L1.out ?c1q13 ?c2q13 ?c3q13 ?c4q13 ?c5q13 ?_
              (case h0q13 => rfl)
              (case h1q13 => rfl)
              (case c1q13 => have := HBW.out; omega)
              (case c2q13 => exact B1.out.lt)
              (case c3q13 => exact HLEN.out.2)
              (case c4q13 => rfl)
              (case c5q13 => rfl)
              intro val1 w2 h2 r2 hg
              obtain ⟨A2, c2, e2⟩ := r2.slice
              rw [List.length_append, List.length_singleton] at e2
              subst e2
              have B2 := hid (B1.out.grownL L1.out (Nat.lt_succ_self _) hg)
              have R2 := hid (R1.out.grownL L1.out hg)
              have H2 := hid h2
              have L2 := hid r2
              clear hg h2 r2
              have zz4 := B2.out.c (i := 4) (u := .slice A4 kids.length c4) rfl
              have fz4 := B2.out.f 4
              refine HK.out _ _ ⟨.inr ?_, ?_⟩
              · exact zz4
              clear HK K'
              have hS := zz4
              change wpAnyU _ _ _ _ _ _ _ _ (Act.put _ (some 57) _) _
              simp only [Act.put, List.setIfInBounds_toArray, List.set_cons_succ, List.set_cons_zero]
              refine wpAnyU_take (i := 6) (v := (.pointer (some ⟨b, 4, none⟩))) rfl (by kernel_rfl) (fun _ _ _ h => h) (leads_of [[7]] (by kernel_rfl)) (by kernel_rfl) (by kernel_rfl) (by kernel_rfl) (Or.inl ⟨by rfl, ?_⟩) hS ?_
              · intro w' hS'
                have s0 := hS'
                go_simp
              change wpAnyU _ _ _ _ _ _ _ _ (Act.put _ (some 58) _) _
              simp only [Act.put, List.setIfInBounds_toArray, List.set_cons_succ, List.set_cons_zero]
              refine wpAnyU_all (rs := [7]) (by kernel_rfl) (by simp) ?_
              intro j hj
              obtain rfl := List.mem_singleton.1 hj
              clear hj
              refine wpOp_shut rfl (fun K' HK => ?_)
              go_simp
              refine HK.out _ _ ⟨.inl (by decide), ?_⟩
              clear HK K'
              refine wpAnyU_done (by kernel_rfl) ?_ _
              have H7 := hid (H2.out.setB B2.out 4 (.slice A2 (kids.length + 1) c2))
              have R := hid (R2.out.setB (Nat.lt_succ_self _) 4 (.slice A2 (kids.length + 1) c2))
              have L := hid (L2.out.setB (Nat.lt_succ_self _) 4 (.slice A2 (kids.length + 1) c2))
              have B := hid (B2.out.set (cs' := #[.int .i64 8, .int .i64 0, .string ⟨#[]⟩, .slice A5 (names.length + 1) c5', .slice A2 (kids.length + 1) c2, .int .i64 (at_ : Nat)]) 4 (.slice A2 (kids.length + 1) c2) rfl)
              clear hS HD BD RD LD H1 B1 R1 L1 HB6 H2 B2 R2 L2 z4 zz4 fz4 y4 HX hG
              go_wp2_with fail
              have hr := HR.out
              clear HR
              rcases Bool.eq_false_or_eq_true ((x3).hasB (⟨#[44]⟩ : ByteArray)) with hb | hb
              · skip
                rw [if_pos hb] at hr
                refine (has_hit H7.out.p (⟨#[44]⟩ : ByteArray) hb).mono ?_
                rintro e w8 ⟨rfl, hN⟩
                obtain ⟨ok8, v8, h8, m8⟩ := H7.out.call hN
                have H8 := hid h8
                replace B := hid (B.out.mv m8)
                replace R := hid (R.out.mv m8)
                replace L := hid (L.out.mv m8)
                clear hN h8 m8 H7
                clear hb
                have HRR := hid hr
                clear hr
                go_wp2_with fail
                go_roundg gk
                case measure => omega
                case rel => exact ⟨_, _, _, _, _, _, _, by omega, HRR, H8, B, R, L⟩
              · skip
                rw [if_f hb] at hr
                refine (has_miss H7.out.p (⟨#[44]⟩ : ByteArray) hb).mono ?_
                rintro e w8 ⟨rfl, hN⟩
                obtain ⟨ok8, v8, h8, m8⟩ := H7.out.call hN
                have H8 := hid h8
                replace B := hid (B.out.mv m8)
                replace R := hid (R.out.mv m8)
                replace L := hid (L.out.mv m8)
                clear hN h8 m8 H7
                clear hb
                unfold objEnd at hr
                obtain ⟨hr2, rfl⟩ := one1_some hr
                have HRR := hid hr2
                clear hr hr2
                go_wp2_with fail
                refine (must_c H8.out.p (⟨#[125]⟩ : ByteArray)).mono ?_
                rintro e w9 ⟨rfl, hN⟩
                obtain ⟨ok9, v9, h9, m9⟩ := H8.out.call hN
                have H9 := hid h9
                replace B := hid (B.out.mv m9)
                replace R := hid (R.out.mv m9)
                replace L := hid (L.out.mv m9)
                clear hN h9 m9 H8
                have n0 := B.out.c (i := 0) (u := .int .i64 8) rfl
                have n1 := B.out.c (i := 1) (u := .int .i64 0) rfl
                have n2 := B.out.c (i := 2) (u := .string ⟨#[]⟩) rfl
                have n3 := B.out.c (i := 3) (u := .slice A5 (names.length + 1) c5') rfl
                have n4 := B.out.c (i := 4) (u := .slice A2 (kids.length + 1) c2) rfl
                have n5 := B.out.c (i := 5) (u := .int .i64 (at_ : Nat)) rfl
                go_wp2_with fail
                clear n0 n1 n2 n3 n4 n5
                refine (put_both H9.out (R.out.le (by have := HBW.out; omega)) (L.out.le (by have := HBW.out; omega)) HRR.out).mono ?_
                rintro e wz ⟨rfl, hN⟩
                have HN := hid hN
                clear hN
                go_wp2_with fail
                go_ret
                exact ⟨ret_nat rfl, HN.out⟩
          · skip
            rw [hk] at c1
            clear hk
            have la := H0.out.p.lt
            have hr := HR.out
            clear HR
            rcases Bool.eq_false_or_eq_true (Sx.bad) with hd | hd
            · skip
              rw [if_pos hd] at hr
              rw [hd] at c9
              clear hd hG
              obtain ⟨rfl, rfl, rfl⟩ := some3 hr
              clear hr
              go_wp2_with fail
              go_ret
              exact ⟨ret_nat rfl, (H0.out.alloc (.cells #[.int .i64 4, .string Sx.t.text, .int .i64 Sx.t.num, .int .i64 (Sx.t.at_ : Nat), .bool Sx.t.line] 55)).nx⟩
            · skip
              rw [if_f hd] at hr
              rw [hd] at c9
              clear hd
              obtain ⟨⟨x1, x2, x3⟩, hx, hr2⟩ := Option.bind_eq_some_iff.1 hr
              have HX := hid hx
              clear hr hx
              dsimp only at hr2
              have hr := hr2
              clear hr2
              split at hr
              rotate_left
              · cases hr
              rename_i hlen
              have HLEN := hid hlen
              have HR := hid hr
              clear hr hlen
              go_wp2_with fail
              clear n4 hpos c1 c2 c3 c4 c5 c9 la
              have hnb : ¬ okx wr.heap.size := fun h => by have := H0.out.p.lo _ h; omega
              have hna : wr.heap.size ≠ a := fun e => by have := H0.out.p.lt; omega
              have hba : wr.heap.size ≠ b := fun e => by have := B.out.lt; omega
              have t1 : (wr.alloc (.cells #[.int .i64 4, .string Sx.t.text, .int .i64 Sx.t.num, .int .i64 (Sx.t.at_ : Nat), .bool Sx.t.line] 55)).cell? ⟨wr.heap.size, 1, none⟩ = some (.string Sx.t.text) := (cell_of_row _ _ 1 _ _ _ (heap_alloc_new wr (.cells #[.int .i64 4, .string Sx.t.text, .int .i64 Sx.t.num, .int .i64 (Sx.t.at_ : Nat), .bool Sx.t.line] 55))).trans rfl
              replace H0 := hid (H0.out.alloc (.cells #[.int .i64 4, .string Sx.t.text, .int .i64 Sx.t.num, .int .i64 (Sx.t.at_ : Nat), .bool Sx.t.line] 55))
              replace B := hid (B.out.below ((Below.refl _ _).alloc (Nat.le_refl _) (.cells #[.int .i64 4, .string Sx.t.text, .int .i64 Sx.t.num, .int .i64 (Sx.t.at_ : Nat), .bool Sx.t.line] 55)))
              replace R := hid (R.out.below ((Below.refl _ _).alloc (Nat.le_refl _) (.cells #[.int .i64 4, .string Sx.t.text, .int .i64 Sx.t.num, .int .i64 (Sx.t.at_ : Nat), .bool Sx.t.line] 55)))
              replace L := hid (L.out.below ((Below.refl _ _).alloc (Nat.le_refl _) (.cells #[.int .i64 4, .string Sx.t.text, .int .i64 Sx.t.num, .int .i64 (Sx.t.at_ : Nat), .bool Sx.t.line] 55)))
              refine (move_c H0.out.p).mono ?_
              rintro e w1 ⟨rfl, hN⟩
              obtain ⟨ok1, v1, h1, m1⟩ := H0.out.call hN
              have H1 := hid h1
              replace B := hid (B.out.mv m1)
              replace R := hid (R.out.mv m1)
              replace L := hid (L.out.mv m1)
              have t0 := t1
              replace t1 := m1.cell t0 hna hnb
              replace hnb : ¬ ok1 wr.heap.size := fun h => (m1.sub _ h).elim hnb (fun q => by have := World.block_lt_of_cell? _ _ t0; simp only at this; omega)
              clear t0
              clear hN h1 m1 H0
              go_wp2_with fail
              refine (must_c H1.out.p (⟨#[58]⟩ : ByteArray)).mono ?_
              rintro e w2 ⟨rfl, hN⟩
              obtain ⟨ok2, v2, h2, m2⟩ := H1.out.call hN
              have H2 := hid h2
              replace B := hid (B.out.mv m2)
              replace R := hid (R.out.mv m2)
              replace L := hid (L.out.mv m2)
              have t0 := t1
              replace t1 := m2.cell t0 hna hnb
              replace hnb : ¬ ok2 wr.heap.size := fun h => (m2.sub _ h).elim hnb (fun q => by have := World.block_lt_of_cell? _ _ t0; simp only at this; omega)
              clear t0
              clear hN h2 m2 H1
              have n3 := B.out.c (i := 3) (u := .slice A3 names.length c3) rfl
              go_upto_region 11 with (at_builtin; refine SR.append_wp rfl _ _ rfl H2.out R.out (by have := HBW.out; omega) B.out.lt HLEN.out.1 rfl rfl ?_; intro val1 w3 h3 r3 hg; obtain ⟨A5, c5', e5⟩ := r3.slice; rw [List.length_append, List.length_singleton] at e5; subst e5; have B3 := hid (B.out.grown R.out (Nat.lt_succ_self _) hg); have L3 := hid (L.out.grownS R.out hg); have H3 := hid h3; have R3 := hid r3; clear hg h3 r3; have m3 := B3.out.c (i := 3) (u := .slice A3 names.length c3) rfl; have fz3 := B3.out.f 3)
              replace H3 := hid (H3.out.setB B3.out 3 (.slice A5 (names.length + 1) c5'))
              replace R3 := hid (R3.out.setB (Nat.lt_succ_self _) 3 (.slice A5 (names.length + 1) c5'))
              replace L3 := hid (L3.out.setB (Nat.lt_succ_self _) 3 (.slice A5 (names.length + 1) c5'))
              replace B3 := hid (B3.out.set (cs' := #[.int .i64 8, .int .i64 0, .string ⟨#[]⟩, .slice A5 (names.length + 1) c5', .slice A4 kids.length c4, .int .i64 (at_ : Nat)]) 3 (.slice A5 (names.length + 1) c5') rfl)
              clear n3 m3 fz3 t1 hnb hna hba H2 B R L
              generalize (w3.setCell ⟨b, 3, none⟩ (.slice A5 (names.length + 1) c5')) = W3 at H3 R3 L3 B3 ⊢
              have y4 := B3.out.c (i := 4) (u := .slice A4 kids.length c4) rfl
              have HD := hid (H3.out.below (Below.refl W3.heap.size W3).drew)
              have BD := hid (B3.out.below (Below.refl W3.heap.size W3).drew)
              have RD := hid (R3.out.below (Below.refl W3.heap.size W3).drew)
              have LD := hid (L3.out.below (Below.refl W3.heap.size W3).drew)
              clear H3 B3 R3 L3
              refine wp_region_until [7] (S := (fun w' => w'.cell? ⟨b, 4, none⟩ = some (.slice A4 kids.length c4))) (by kernel_rfl) ?_ ?_
              · go_keep
              intro hS
              refine wpAnyU_take (i := 0) (v := (.pointer (some ⟨b, 4, none⟩))) rfl (by kernel_rfl) (fun _ _ _ h => h) (leads_of [[7]] (by kernel_rfl)) (by kernel_rfl) (by kernel_rfl) (by kernel_rfl) (Or.inl ⟨by rfl, ?_⟩) hS ?_
              · intro w' hS'
                have s0 := hS'
                go_simp
              change wpAnyU _ _ _ _ _ _ _ _ (Act.put _ (some 52) _) _
              simp only [Act.put, List.setIfInBounds_toArray, List.set_cons_succ, List.set_cons_zero]
              refine wpAnyU_take (i := 1) (v := (.slice A4 kids.length c4)) rfl (by kernel_rfl) (fun _ _ _ h => h) (leads_of [[7]] (by kernel_rfl)) (by kernel_rfl) (by kernel_rfl) (by kernel_rfl) (Or.inl ⟨by rfl, ?_⟩) hS ?_
              · intro w' hS'
                have s0 := hS'
                go_simp
              change wpAnyU _ _ _ _ _ _ _ _ (Act.put _ (some 53) _) _
              simp only [Act.put, List.setIfInBounds_toArray, List.set_cons_succ, List.set_cons_zero]
              refine wpAnyU_take (i := 2) (v := (.pointer (some ⟨a, 0, none⟩))) rfl (by kernel_rfl) (fun _ _ _ h => h) (leads_of [[7]] (by kernel_rfl)) (by kernel_rfl) (by kernel_rfl) (by kernel_rfl) (Or.inl ⟨by rfl, ?_⟩) hS ?_
              · intro w' hS'
                have s0 := hS'
                go_simp
              change wpAnyU _ _ _ _ _ _ _ _ (Act.put _ (some 54) _) _
              simp only [Act.put, List.setIfInBounds_toArray, List.set_cons_succ, List.set_cons_zero]
              refine wpAnyU_all (rs := [3]) (by kernel_rfl) (by simp) ?_
              intro j hj
              obtain rfl := List.mem_singleton.1 hj
              clear hj
              refine wpOp_shut rfl (fun K' HK => ?_)
              refine step_call rfl (f := 67) rfl Try.func67 (by kernel_rfl) rfl #[.pointer (some ⟨a, 0, none⟩)] (by simp only [List.map_toArray, List.map_cons, List.map_nil]; rfl) ?_
              refine (hG.e HX.out HD.out.p).mono ?_
              rintro e w1 ⟨rfl, hN⟩
              refine ⟨_, rfl, ?_⟩
              obtain ⟨ok1, v1, h1, m1⟩ := HD.out.call hN
              have H1 := hid h1
              have B1 := hid (BD.out.mv m1)
              have R1 := hid (RD.out.mv m1)
              have L1 := hid (LD.out.mv m1)
              clear hN h1 m1
              have z4 := B1.out.c (i := 4) (u := .slice A4 kids.length c4) rfl
              refine HK.out _ _ ⟨.inr ?_, ?_⟩
              · exact z4
              clear HK K'
              have hS := z4
              change wpAnyU _ _ _ _ _ _ _ _ (Act.put _ (some 55) _) _
              simp only [Act.put, List.setIfInBounds_toArray, List.set_cons_succ, List.set_cons_zero]
              refine wpAnyU_all (rs := [4]) (by kernel_rfl) (by simp) ?_
              intro j hj
              obtain rfl := List.mem_singleton.1 hj
              clear hj
              refine wpOp_shut rfl (fun K' HK => ?_)
              go_simp
              have HB6 := hid (below_alloc (Below.refl w1.heap.size w1) (.cells #[.int .i64 (x1 : Nat)] 3))
              refine HK.out _ _ ⟨.inr ?_, ?_⟩
              · exact keepc HB6.out z4
              clear HK K'
              have hS := keepc HB6.out z4
              try simp only [Act.put, List.setIfInBounds_toArray, List.set_cons_succ, List.set_cons_zero]
              refine wpAnyU_all (rs := [5]) (by kernel_rfl) (by simp) ?_
              intro j hj
              obtain rfl := List.mem_singleton.1 hj
              clear hj
              refine wpOp_shut rfl (fun K' HK => ?_)
              refine LR.append_step ?h0q14 (.tmp 53) (.tmp 56) ?h1q14 H1.out L1.out ?c1q14 ?c2q14 ?c3q14 ?c4q14 ?c5q14 ?_
              (case h0q14 => rfl)
              (case h1q14 => rfl)
              (case c1q14 => have := HBW.out; omega)
              (case c2q14 => exact B1.out.lt)
              (case c3q14 => exact HLEN.out.2)
              (case c4q14 => rfl)
              (case c5q14 => rfl)
              intro val1 w2 h2 r2 hg
              obtain ⟨A2, c2, e2⟩ := r2.slice
              rw [List.length_append, List.length_singleton] at e2
              subst e2
              have B2 := hid (B1.out.grownL L1.out (Nat.lt_succ_self _) hg)
              have R2 := hid (R1.out.grownL L1.out hg)
              have H2 := hid h2
              have L2 := hid r2
              clear hg h2 r2
              have zz4 := B2.out.c (i := 4) (u := .slice A4 kids.length c4) rfl
              have fz4 := B2.out.f 4
              refine HK.out _ _ ⟨.inr ?_, ?_⟩
              · exact zz4
              clear HK K'
              have hS := zz4
              change wpAnyU _ _ _ _ _ _ _ _ (Act.put _ (some 57) _) _
              simp only [Act.put, List.setIfInBounds_toArray, List.set_cons_succ, List.set_cons_zero]
              refine wpAnyU_take (i := 6) (v := (.pointer (some ⟨b, 4, none⟩))) rfl (by kernel_rfl) (fun _ _ _ h => h) (leads_of [[7]] (by kernel_rfl)) (by kernel_rfl) (by kernel_rfl) (by kernel_rfl) (Or.inl ⟨by rfl, ?_⟩) hS ?_
              · intro w' hS'
                have s0 := hS'
                go_simp
              change wpAnyU _ _ _ _ _ _ _ _ (Act.put _ (some 58) _) _
              simp only [Act.put, List.setIfInBounds_toArray, List.set_cons_succ, List.set_cons_zero]
              refine wpAnyU_all (rs := [7]) (by kernel_rfl) (by simp) ?_
              intro j hj
              obtain rfl := List.mem_singleton.1 hj
              clear hj
              refine wpOp_shut rfl (fun K' HK => ?_)
              go_simp
              refine HK.out _ _ ⟨.inl (by decide), ?_⟩
              clear HK K'
              refine wpAnyU_done (by kernel_rfl) ?_ _
              have H7 := hid (H2.out.setB B2.out 4 (.slice A2 (kids.length + 1) c2))
              have R := hid (R2.out.setB (Nat.lt_succ_self _) 4 (.slice A2 (kids.length + 1) c2))
              have L := hid (L2.out.setB (Nat.lt_succ_self _) 4 (.slice A2 (kids.length + 1) c2))
              have B := hid (B2.out.set (cs' := #[.int .i64 8, .int .i64 0, .string ⟨#[]⟩, .slice A5 (names.length + 1) c5', .slice A2 (kids.length + 1) c2, .int .i64 (at_ : Nat)]) 4 (.slice A2 (kids.length + 1) c2) rfl)
              clear hS HD BD RD LD H1 B1 R1 L1 HB6 H2 B2 R2 L2 z4 zz4 fz4 y4 HX hG
              go_wp2_with fail
              have hr := HR.out
              clear HR
              rcases Bool.eq_false_or_eq_true ((x3).hasB (⟨#[44]⟩ : ByteArray)) with hb | hb
              · skip
                rw [if_pos hb] at hr
                refine (has_hit H7.out.p (⟨#[44]⟩ : ByteArray) hb).mono ?_
                rintro e w8 ⟨rfl, hN⟩
                obtain ⟨ok8, v8, h8, m8⟩ := H7.out.call hN
                have H8 := hid h8
                replace B := hid (B.out.mv m8)
                replace R := hid (R.out.mv m8)
                replace L := hid (L.out.mv m8)
                clear hN h8 m8 H7
                clear hb
                have HRR := hid hr
                clear hr
                go_wp2_with fail
                go_roundg gk
                case measure => omega
                case rel => exact ⟨_, _, _, _, _, _, _, by omega, HRR, H8, B, R, L⟩
              · skip
                rw [if_f hb] at hr
                refine (has_miss H7.out.p (⟨#[44]⟩ : ByteArray) hb).mono ?_
                rintro e w8 ⟨rfl, hN⟩
                obtain ⟨ok8, v8, h8, m8⟩ := H7.out.call hN
                have H8 := hid h8
                replace B := hid (B.out.mv m8)
                replace R := hid (R.out.mv m8)
                replace L := hid (L.out.mv m8)
                clear hN h8 m8 H7
                clear hb
                unfold objEnd at hr
                obtain ⟨hr2, rfl⟩ := one1_some hr
                have HRR := hid hr2
                clear hr hr2
                go_wp2_with fail
                refine (must_c H8.out.p (⟨#[125]⟩ : ByteArray)).mono ?_
                rintro e w9 ⟨rfl, hN⟩
                obtain ⟨ok9, v9, h9, m9⟩ := H8.out.call hN
                have H9 := hid h9
                replace B := hid (B.out.mv m9)
                replace R := hid (R.out.mv m9)
                replace L := hid (L.out.mv m9)
                clear hN h9 m9 H8
                have n0 := B.out.c (i := 0) (u := .int .i64 8) rfl
                have n1 := B.out.c (i := 1) (u := .int .i64 0) rfl
                have n2 := B.out.c (i := 2) (u := .string ⟨#[]⟩) rfl
                have n3 := B.out.c (i := 3) (u := .slice A5 (names.length + 1) c5') rfl
                have n4 := B.out.c (i := 4) (u := .slice A2 (kids.length + 1) c2) rfl
                have n5 := B.out.c (i := 5) (u := .int .i64 (at_ : Nat)) rfl
                go_wp2_with fail
                clear n0 n1 n2 n3 n4 n5
                refine (put_both H9.out (R.out.le (by have := HBW.out; omega)) (L.out.le (by have := HBW.out; omega)) HRR.out).mono ?_
                rintro e wz ⟨rfl, hN⟩
                have HN := hid hN
                clear hN
                go_wp2_with fail
                go_ret
                exact ⟨ret_nat rfl, HN.out⟩
          · skip
            rw [hk] at c1
            clear hk
            have la := H0.out.p.lt
            have hr := HR.out
            clear HR
            rcases Bool.eq_false_or_eq_true (Sx.bad) with hd | hd
            · skip
              rw [if_pos hd] at hr
              rw [hd] at c9
              clear hd hG
              obtain ⟨rfl, rfl, rfl⟩ := some3 hr
              clear hr
              go_wp2_with fail
              go_ret
              exact ⟨ret_nat rfl, (H0.out.alloc (.cells #[.int .i64 2, .string Sx.t.text, .int .i64 Sx.t.num, .int .i64 (Sx.t.at_ : Nat), .bool Sx.t.line] 55)).nx⟩
            · skip
              rw [if_f hd] at hr
              rw [hd] at c9
              clear hd
              obtain ⟨⟨x1, x2, x3⟩, hx, hr2⟩ := Option.bind_eq_some_iff.1 hr
              have HX := hid hx
              clear hr hx
              dsimp only at hr2
              have hr := hr2
              clear hr2
              split at hr
              rotate_left
              · cases hr
              rename_i hlen
              have HLEN := hid hlen
              have HR := hid hr
              clear hr hlen
              go_wp2_with fail
              clear n4 hpos c1 c2 c3 c4 c5 c9 la
              have hnb : ¬ okx wr.heap.size := fun h => by have := H0.out.p.lo _ h; omega
              have hna : wr.heap.size ≠ a := fun e => by have := H0.out.p.lt; omega
              have hba : wr.heap.size ≠ b := fun e => by have := B.out.lt; omega
              have t1 : (wr.alloc (.cells #[.int .i64 2, .string Sx.t.text, .int .i64 Sx.t.num, .int .i64 (Sx.t.at_ : Nat), .bool Sx.t.line] 55)).cell? ⟨wr.heap.size, 1, none⟩ = some (.string Sx.t.text) := (cell_of_row _ _ 1 _ _ _ (heap_alloc_new wr (.cells #[.int .i64 2, .string Sx.t.text, .int .i64 Sx.t.num, .int .i64 (Sx.t.at_ : Nat), .bool Sx.t.line] 55))).trans rfl
              replace H0 := hid (H0.out.alloc (.cells #[.int .i64 2, .string Sx.t.text, .int .i64 Sx.t.num, .int .i64 (Sx.t.at_ : Nat), .bool Sx.t.line] 55))
              replace B := hid (B.out.below ((Below.refl _ _).alloc (Nat.le_refl _) (.cells #[.int .i64 2, .string Sx.t.text, .int .i64 Sx.t.num, .int .i64 (Sx.t.at_ : Nat), .bool Sx.t.line] 55)))
              replace R := hid (R.out.below ((Below.refl _ _).alloc (Nat.le_refl _) (.cells #[.int .i64 2, .string Sx.t.text, .int .i64 Sx.t.num, .int .i64 (Sx.t.at_ : Nat), .bool Sx.t.line] 55)))
              replace L := hid (L.out.below ((Below.refl _ _).alloc (Nat.le_refl _) (.cells #[.int .i64 2, .string Sx.t.text, .int .i64 Sx.t.num, .int .i64 (Sx.t.at_ : Nat), .bool Sx.t.line] 55)))
              refine (move_c H0.out.p).mono ?_
              rintro e w1 ⟨rfl, hN⟩
              obtain ⟨ok1, v1, h1, m1⟩ := H0.out.call hN
              have H1 := hid h1
              replace B := hid (B.out.mv m1)
              replace R := hid (R.out.mv m1)
              replace L := hid (L.out.mv m1)
              have t0 := t1
              replace t1 := m1.cell t0 hna hnb
              replace hnb : ¬ ok1 wr.heap.size := fun h => (m1.sub _ h).elim hnb (fun q => by have := World.block_lt_of_cell? _ _ t0; simp only at this; omega)
              clear t0
              clear hN h1 m1 H0
              go_wp2_with fail
              refine (must_c H1.out.p (⟨#[58]⟩ : ByteArray)).mono ?_
              rintro e w2 ⟨rfl, hN⟩
              obtain ⟨ok2, v2, h2, m2⟩ := H1.out.call hN
              have H2 := hid h2
              replace B := hid (B.out.mv m2)
              replace R := hid (R.out.mv m2)
              replace L := hid (L.out.mv m2)
              have t0 := t1
              replace t1 := m2.cell t0 hna hnb
              replace hnb : ¬ ok2 wr.heap.size := fun h => (m2.sub _ h).elim hnb (fun q => by have := World.block_lt_of_cell? _ _ t0; simp only at this; omega)
              clear t0
              clear hN h2 m2 H1
              have n3 := B.out.c (i := 3) (u := .slice A3 names.length c3) rfl
              go_upto_region 11 with (at_builtin; refine SR.append_wp rfl _ _ rfl H2.out R.out (by have := HBW.out; omega) B.out.lt HLEN.out.1 rfl rfl ?_; intro val1 w3 h3 r3 hg; obtain ⟨A5, c5', e5⟩ := r3.slice; rw [List.length_append, List.length_singleton] at e5; subst e5; have B3 := hid (B.out.grown R.out (Nat.lt_succ_self _) hg); have L3 := hid (L.out.grownS R.out hg); have H3 := hid h3; have R3 := hid r3; clear hg h3 r3; have m3 := B3.out.c (i := 3) (u := .slice A3 names.length c3) rfl; have fz3 := B3.out.f 3)
              replace H3 := hid (H3.out.setB B3.out 3 (.slice A5 (names.length + 1) c5'))
              replace R3 := hid (R3.out.setB (Nat.lt_succ_self _) 3 (.slice A5 (names.length + 1) c5'))
              replace L3 := hid (L3.out.setB (Nat.lt_succ_self _) 3 (.slice A5 (names.length + 1) c5'))
              replace B3 := hid (B3.out.set (cs' := #[.int .i64 8, .int .i64 0, .string ⟨#[]⟩, .slice A5 (names.length + 1) c5', .slice A4 kids.length c4, .int .i64 (at_ : Nat)]) 3 (.slice A5 (names.length + 1) c5') rfl)
              clear n3 m3 fz3 t1 hnb hna hba H2 B R L
              generalize (w3.setCell ⟨b, 3, none⟩ (.slice A5 (names.length + 1) c5')) = W3 at H3 R3 L3 B3 ⊢
              have y4 := B3.out.c (i := 4) (u := .slice A4 kids.length c4) rfl
              have HD := hid (H3.out.below (Below.refl W3.heap.size W3).drew)
              have BD := hid (B3.out.below (Below.refl W3.heap.size W3).drew)
              have RD := hid (R3.out.below (Below.refl W3.heap.size W3).drew)
              have LD := hid (L3.out.below (Below.refl W3.heap.size W3).drew)
              clear H3 B3 R3 L3
              refine wp_region_until [7] (S := (fun w' => w'.cell? ⟨b, 4, none⟩ = some (.slice A4 kids.length c4))) (by kernel_rfl) ?_ ?_
              · go_keep
              intro hS
              refine wpAnyU_take (i := 0) (v := (.pointer (some ⟨b, 4, none⟩))) rfl (by kernel_rfl) (fun _ _ _ h => h) (leads_of [[7]] (by kernel_rfl)) (by kernel_rfl) (by kernel_rfl) (by kernel_rfl) (Or.inl ⟨by rfl, ?_⟩) hS ?_
              · intro w' hS'
                have s0 := hS'
                go_simp
              change wpAnyU _ _ _ _ _ _ _ _ (Act.put _ (some 52) _) _
              simp only [Act.put, List.setIfInBounds_toArray, List.set_cons_succ, List.set_cons_zero]
              refine wpAnyU_take (i := 1) (v := (.slice A4 kids.length c4)) rfl (by kernel_rfl) (fun _ _ _ h => h) (leads_of [[7]] (by kernel_rfl)) (by kernel_rfl) (by kernel_rfl) (by kernel_rfl) (Or.inl ⟨by rfl, ?_⟩) hS ?_
              · intro w' hS'
                have s0 := hS'
                go_simp
              change wpAnyU _ _ _ _ _ _ _ _ (Act.put _ (some 53) _) _
              simp only [Act.put, List.setIfInBounds_toArray, List.set_cons_succ, List.set_cons_zero]
              refine wpAnyU_take (i := 2) (v := (.pointer (some ⟨a, 0, none⟩))) rfl (by kernel_rfl) (fun _ _ _ h => h) (leads_of [[7]] (by kernel_rfl)) (by kernel_rfl) (by kernel_rfl) (by kernel_rfl) (Or.inl ⟨by rfl, ?_⟩) hS ?_
              · intro w' hS'
                have s0 := hS'
                go_simp
              change wpAnyU _ _ _ _ _ _ _ _ (Act.put _ (some 54) _) _
              simp only [Act.put, List.setIfInBounds_toArray, List.set_cons_succ, List.set_cons_zero]
              refine wpAnyU_all (rs := [3]) (by kernel_rfl) (by simp) ?_
              intro j hj
              obtain rfl := List.mem_singleton.1 hj
              clear hj
              refine wpOp_shut rfl (fun K' HK => ?_)
              refine step_call rfl (f := 67) rfl Try.func67 (by kernel_rfl) rfl #[.pointer (some ⟨a, 0, none⟩)] (by simp only [List.map_toArray, List.map_cons, List.map_nil]; rfl) ?_
              refine (hG.e HX.out HD.out.p).mono ?_
              rintro e w1 ⟨rfl, hN⟩
              refine ⟨_, rfl, ?_⟩
              obtain ⟨ok1, v1, h1, m1⟩ := HD.out.call hN
              have H1 := hid h1
              have B1 := hid (BD.out.mv m1)
              have R1 := hid (RD.out.mv m1)
              have L1 := hid (LD.out.mv m1)
              clear hN h1 m1
              have z4 := B1.out.c (i := 4) (u := .slice A4 kids.length c4) rfl
              refine HK.out _ _ ⟨.inr ?_, ?_⟩
              · exact z4
              clear HK K'
              have hS := z4
              change wpAnyU _ _ _ _ _ _ _ _ (Act.put _ (some 55) _) _
              simp only [Act.put, List.setIfInBounds_toArray, List.set_cons_succ, List.set_cons_zero]
              refine wpAnyU_all (rs := [4]) (by kernel_rfl) (by simp) ?_
              intro j hj
              obtain rfl := List.mem_singleton.1 hj
              clear hj
              refine wpOp_shut rfl (fun K' HK => ?_)
              go_simp
              have HB6 := hid (below_alloc (Below.refl w1.heap.size w1) (.cells #[.int .i64 (x1 : Nat)] 3))
              refine HK.out _ _ ⟨.inr ?_, ?_⟩
              · exact keepc HB6.out z4
              clear HK K'
              have hS := keepc HB6.out z4
              try simp only [Act.put, List.setIfInBounds_toArray, List.set_cons_succ, List.set_cons_zero]
              refine wpAnyU_all (rs := [5]) (by kernel_rfl) (by simp) ?_
              intro j hj
              obtain rfl := List.mem_singleton.1 hj
              clear hj
              refine wpOp_shut rfl (fun K' HK => ?_)
              refine LR.append_step ?h0q15 (.tmp 53) (.tmp 56) ?h1q15 H1.out L1.out ?c1q15 ?c2q15 ?c3q15 ?c4q15 ?c5q15 ?_
              (case h0q15 => rfl)
              (case h1q15 => rfl)
              (case c1q15 => have := HBW.out; omega)
              (case c2q15 => exact B1.out.lt)
              (case c3q15 => exact HLEN.out.2)
              (case c4q15 => rfl)
              (case c5q15 => rfl)
              intro val1 w2 h2 r2 hg
              obtain ⟨A2, c2, e2⟩ := r2.slice
              rw [List.length_append, List.length_singleton] at e2
              subst e2
              have B2 := hid (B1.out.grownL L1.out (Nat.lt_succ_self _) hg)
              have R2 := hid (R1.out.grownL L1.out hg)
              have H2 := hid h2
              have L2 := hid r2
              clear hg h2 r2
              have zz4 := B2.out.c (i := 4) (u := .slice A4 kids.length c4) rfl
              have fz4 := B2.out.f 4
              refine HK.out _ _ ⟨.inr ?_, ?_⟩
              · exact zz4
              clear HK K'
              have hS := zz4
              change wpAnyU _ _ _ _ _ _ _ _ (Act.put _ (some 57) _) _
              simp only [Act.put, List.setIfInBounds_toArray, List.set_cons_succ, List.set_cons_zero]
              refine wpAnyU_take (i := 6) (v := (.pointer (some ⟨b, 4, none⟩))) rfl (by kernel_rfl) (fun _ _ _ h => h) (leads_of [[7]] (by kernel_rfl)) (by kernel_rfl) (by kernel_rfl) (by kernel_rfl) (Or.inl ⟨by rfl, ?_⟩) hS ?_
              · intro w' hS'
                have s0 := hS'
                go_simp
              change wpAnyU _ _ _ _ _ _ _ _ (Act.put _ (some 58) _) _
              simp only [Act.put, List.setIfInBounds_toArray, List.set_cons_succ, List.set_cons_zero]
              refine wpAnyU_all (rs := [7]) (by kernel_rfl) (by simp) ?_
              intro j hj
              obtain rfl := List.mem_singleton.1 hj
              clear hj
              refine wpOp_shut rfl (fun K' HK => ?_)
              go_simp
              refine HK.out _ _ ⟨.inl (by decide), ?_⟩
              clear HK K'
              refine wpAnyU_done (by kernel_rfl) ?_ _
              have H7 := hid (H2.out.setB B2.out 4 (.slice A2 (kids.length + 1) c2))
              have R := hid (R2.out.setB (Nat.lt_succ_self _) 4 (.slice A2 (kids.length + 1) c2))
              have L := hid (L2.out.setB (Nat.lt_succ_self _) 4 (.slice A2 (kids.length + 1) c2))
              have B := hid (B2.out.set (cs' := #[.int .i64 8, .int .i64 0, .string ⟨#[]⟩, .slice A5 (names.length + 1) c5', .slice A2 (kids.length + 1) c2, .int .i64 (at_ : Nat)]) 4 (.slice A2 (kids.length + 1) c2) rfl)
              clear hS HD BD RD LD H1 B1 R1 L1 HB6 H2 B2 R2 L2 z4 zz4 fz4 y4 HX hG
              go_wp2_with fail
              have hr := HR.out
              clear HR
              rcases Bool.eq_false_or_eq_true ((x3).hasB (⟨#[44]⟩ : ByteArray)) with hb | hb
              · skip
                rw [if_pos hb] at hr
                refine (has_hit H7.out.p (⟨#[44]⟩ : ByteArray) hb).mono ?_
                rintro e w8 ⟨rfl, hN⟩
                obtain ⟨ok8, v8, h8, m8⟩ := H7.out.call hN
                have H8 := hid h8
                replace B := hid (B.out.mv m8)
                replace R := hid (R.out.mv m8)
                replace L := hid (L.out.mv m8)
                clear hN h8 m8 H7
                clear hb
                have HRR := hid hr
                clear hr
                go_wp2_with fail
                go_roundg gk
                case measure => omega
                case rel => exact ⟨_, _, _, _, _, _, _, by omega, HRR, H8, B, R, L⟩
              · skip
                rw [if_f hb] at hr
                refine (has_miss H7.out.p (⟨#[44]⟩ : ByteArray) hb).mono ?_
                rintro e w8 ⟨rfl, hN⟩
                obtain ⟨ok8, v8, h8, m8⟩ := H7.out.call hN
                have H8 := hid h8
                replace B := hid (B.out.mv m8)
                replace R := hid (R.out.mv m8)
                replace L := hid (L.out.mv m8)
                clear hN h8 m8 H7
                clear hb
                unfold objEnd at hr
                obtain ⟨hr2, rfl⟩ := one1_some hr
                have HRR := hid hr2
                clear hr hr2
                go_wp2_with fail
                refine (must_c H8.out.p (⟨#[125]⟩ : ByteArray)).mono ?_
                rintro e w9 ⟨rfl, hN⟩
                obtain ⟨ok9, v9, h9, m9⟩ := H8.out.call hN
                have H9 := hid h9
                replace B := hid (B.out.mv m9)
                replace R := hid (R.out.mv m9)
                replace L := hid (L.out.mv m9)
                clear hN h9 m9 H8
                have n0 := B.out.c (i := 0) (u := .int .i64 8) rfl
                have n1 := B.out.c (i := 1) (u := .int .i64 0) rfl
                have n2 := B.out.c (i := 2) (u := .string ⟨#[]⟩) rfl
                have n3 := B.out.c (i := 3) (u := .slice A5 (names.length + 1) c5') rfl
                have n4 := B.out.c (i := 4) (u := .slice A2 (kids.length + 1) c2) rfl
                have n5 := B.out.c (i := 5) (u := .int .i64 (at_ : Nat)) rfl
                go_wp2_with fail
                clear n0 n1 n2 n3 n4 n5
                refine (put_both H9.out (R.out.le (by have := HBW.out; omega)) (L.out.le (by have := HBW.out; omega)) HRR.out).mono ?_
                rintro e wz ⟨rfl, hN⟩
                have HN := hid hN
                clear hN
                go_wp2_with fail
                go_ret
                exact ⟨ret_nat rfl, HN.out⟩
    · skip
      have hr := HR.out
      clear HR
      rw [if_pos (by simp [hc])] at hr
      have HI := hid (is_hit H0.out.p (⟨#[125]⟩ : ByteArray) hc)
      refine HI.out.mono ?_
      rintro e w' ⟨rfl, rfl⟩
      clear HI
      clear hc
      have c1 := H0.out.p.c1
      have c2 := H0.out.p.c2
      have c3 := H0.out.p.c3
      have c4 := H0.out.p.c4
      have c5 := H0.out.p.c5
      have c9 := H0.out.p.c9
      rcases Bool.eq_false_or_eq_true (!decide (Sx.t.kind = 3) && !decide (Sx.t.kind = 4) && !decide (Sx.t.kind = 2)) with hk0 | hk0
      · skip
        have hk : ¬ Sx.t.kind = 3 ∧ ¬ Sx.t.kind = 4 ∧ ¬ Sx.t.kind = 2 := by simpa [and_assoc] using hk0
        rw [if_pos hk0] at hr
        obtain ⟨hk1, hk2, hk3⟩ := hk
        have hk4 : (Sx.t.kind != 3) = true := by simpa using hk1
        have hk5 : (Sx.t.kind != 4) = true := by simpa using hk2
        have hk6 : (Sx.t.kind != 2) = true := by simpa using hk3
        have la := H0.out.p.lt
        have f9 := H0.out.p.f 9
        clear hk0 hk1 hk2 hk3
        obtain ⟨rfl, rfl, rfl⟩ := some3 hr
        clear hr
        clear hG
        go_wp2_with fail
        go_ret
        exact ⟨ret_nat rfl, (H0.out.spoilA.alloc (.cells #[.int .i64 Sx.t.kind, .string Sx.t.text, .int .i64 Sx.t.num, .int .i64 (Sx.t.at_ : Nat), .bool Sx.t.line] 55)).nx⟩
      · skip
        have hk : Sx.t.kind = 3 ∨ Sx.t.kind = 4 ∨ Sx.t.kind = 2 := by simp only [Bool.and_eq_false_iff, Bool.not_eq_false', decide_eq_true_eq] at hk0; rcases hk0 with (h | h) | h <;> simp [h]
        rw [if_f hk0] at hr
        clear hk0
        have HR := hid hr
        clear hr
        rcases hk with hk | hk | hk
        · skip
          rw [hk] at c1
          clear hk
          have la := H0.out.p.lt
          have hr := HR.out
          clear HR
          rcases Bool.eq_false_or_eq_true (Sx.bad) with hd | hd
          · skip
            rw [if_pos hd] at hr
            rw [hd] at c9
            clear hd hG
            obtain ⟨rfl, rfl, rfl⟩ := some3 hr
            clear hr
            go_wp2_with fail
            go_ret
            exact ⟨ret_nat rfl, (H0.out.alloc (.cells #[.int .i64 3, .string Sx.t.text, .int .i64 Sx.t.num, .int .i64 (Sx.t.at_ : Nat), .bool Sx.t.line] 55)).nx⟩
          · skip
            rw [if_f hd] at hr
            rw [hd] at c9
            clear hd
            obtain ⟨⟨x1, x2, x3⟩, hx, hr2⟩ := Option.bind_eq_some_iff.1 hr
            have HX := hid hx
            clear hr hx
            dsimp only at hr2
            have hr := hr2
            clear hr2
            split at hr
            rotate_left
            · cases hr
            rename_i hlen
            have HLEN := hid hlen
            have HR := hid hr
            clear hr hlen
            go_wp2_with fail
            clear c1 c2 c3 c4 c5 c9 la
            have hnb : ¬ okx wr.heap.size := fun h => by have := H0.out.p.lo _ h; omega
            have hna : wr.heap.size ≠ a := fun e => by have := H0.out.p.lt; omega
            have hba : wr.heap.size ≠ b := fun e => by have := B.out.lt; omega
            have t1 : (wr.alloc (.cells #[.int .i64 3, .string Sx.t.text, .int .i64 Sx.t.num, .int .i64 (Sx.t.at_ : Nat), .bool Sx.t.line] 55)).cell? ⟨wr.heap.size, 1, none⟩ = some (.string Sx.t.text) := (cell_of_row _ _ 1 _ _ _ (heap_alloc_new wr (.cells #[.int .i64 3, .string Sx.t.text, .int .i64 Sx.t.num, .int .i64 (Sx.t.at_ : Nat), .bool Sx.t.line] 55))).trans rfl
            replace H0 := hid (H0.out.alloc (.cells #[.int .i64 3, .string Sx.t.text, .int .i64 Sx.t.num, .int .i64 (Sx.t.at_ : Nat), .bool Sx.t.line] 55))
            replace B := hid (B.out.below ((Below.refl _ _).alloc (Nat.le_refl _) (.cells #[.int .i64 3, .string Sx.t.text, .int .i64 Sx.t.num, .int .i64 (Sx.t.at_ : Nat), .bool Sx.t.line] 55)))
            replace R := hid (R.out.below ((Below.refl _ _).alloc (Nat.le_refl _) (.cells #[.int .i64 3, .string Sx.t.text, .int .i64 Sx.t.num, .int .i64 (Sx.t.at_ : Nat), .bool Sx.t.line] 55)))
            replace L := hid (L.out.below ((Below.refl _ _).alloc (Nat.le_refl _) (.cells #[.int .i64 3, .string Sx.t.text, .int .i64 Sx.t.num, .int .i64 (Sx.t.at_ : Nat), .bool Sx.t.line] 55)))
            refine (move_c H0.out.p).mono ?_
            rintro e w1 ⟨rfl, hN⟩
            obtain ⟨ok1, v1, h1, m1⟩ := H0.out.call hN
            have H1 := hid h1
            replace B := hid (B.out.mv m1)
            replace R := hid (R.out.mv m1)
            replace L := hid (L.out.mv m1)
            have t0 := t1
            replace t1 := m1.cell t0 hna hnb
            replace hnb : ¬ ok1 wr.heap.size := fun h => (m1.sub _ h).elim hnb (fun q => by have := World.block_lt_of_cell? _ _ t0; simp only at this; omega)
            clear t0
            clear hN h1 m1 H0
            go_wp2_with fail
            refine (must_c H1.out.p (⟨#[58]⟩ : ByteArray)).mono ?_
            rintro e w2 ⟨rfl, hN⟩
            obtain ⟨ok2, v2, h2, m2⟩ := H1.out.call hN
            have H2 := hid h2
            replace B := hid (B.out.mv m2)
            replace R := hid (R.out.mv m2)
            replace L := hid (L.out.mv m2)
            have t0 := t1
            replace t1 := m2.cell t0 hna hnb
            replace hnb : ¬ ok2 wr.heap.size := fun h => (m2.sub _ h).elim hnb (fun q => by have := World.block_lt_of_cell? _ _ t0; simp only at this; omega)
            clear t0
            clear hN h2 m2 H1
            have n3 := B.out.c (i := 3) (u := .slice A3 names.length c3) rfl
            go_upto_region 11 with (at_builtin; refine SR.append_wp rfl _ _ rfl H2.out R.out (by have := HBW.out; omega) B.out.lt HLEN.out.1 rfl rfl ?_; intro val1 w3 h3 r3 hg; obtain ⟨A5, c5', e5⟩ := r3.slice; rw [List.length_append, List.length_singleton] at e5; subst e5; have B3 := hid (B.out.grown R.out (Nat.lt_succ_self _) hg); have L3 := hid (L.out.grownS R.out hg); have H3 := hid h3; have R3 := hid r3; clear hg h3 r3; have m3 := B3.out.c (i := 3) (u := .slice A3 names.length c3) rfl; have fz3 := B3.out.f 3)
            replace H3 := hid (H3.out.setB B3.out 3 (.slice A5 (names.length + 1) c5'))
            replace R3 := hid (R3.out.setB (Nat.lt_succ_self _) 3 (.slice A5 (names.length + 1) c5'))
            replace L3 := hid (L3.out.setB (Nat.lt_succ_self _) 3 (.slice A5 (names.length + 1) c5'))
            replace B3 := hid (B3.out.set (cs' := #[.int .i64 8, .int .i64 0, .string ⟨#[]⟩, .slice A5 (names.length + 1) c5', .slice A4 kids.length c4, .int .i64 (at_ : Nat)]) 3 (.slice A5 (names.length + 1) c5') rfl)
            clear n3 m3 fz3 t1 hnb hna hba H2 B R L
            generalize (w3.setCell ⟨b, 3, none⟩ (.slice A5 (names.length + 1) c5')) = W3 at H3 R3 L3 B3 ⊢
            have y4 := B3.out.c (i := 4) (u := .slice A4 kids.length c4) rfl
            have HD := hid (H3.out.below (Below.refl W3.heap.size W3).drew)
            have BD := hid (B3.out.below (Below.refl W3.heap.size W3).drew)
            have RD := hid (R3.out.below (Below.refl W3.heap.size W3).drew)
            have LD := hid (L3.out.below (Below.refl W3.heap.size W3).drew)
            clear H3 B3 R3 L3
            refine wp_region_until [7] (S := (fun w' => w'.cell? ⟨b, 4, none⟩ = some (.slice A4 kids.length c4))) (by kernel_rfl) ?_ ?_
            · go_keep
            intro hS
            refine wpAnyU_take (i := 0) (v := (.pointer (some ⟨b, 4, none⟩))) rfl (by kernel_rfl) (fun _ _ _ h => h) (leads_of [[7]] (by kernel_rfl)) (by kernel_rfl) (by kernel_rfl) (by kernel_rfl) (Or.inl ⟨by rfl, ?_⟩) hS ?_
            · intro w' hS'
              have s0 := hS'
              go_simp
            change wpAnyU _ _ _ _ _ _ _ _ (Act.put _ (some 52) _) _
            simp only [Act.put, List.setIfInBounds_toArray, List.set_cons_succ, List.set_cons_zero]
            refine wpAnyU_take (i := 1) (v := (.slice A4 kids.length c4)) rfl (by kernel_rfl) (fun _ _ _ h => h) (leads_of [[7]] (by kernel_rfl)) (by kernel_rfl) (by kernel_rfl) (by kernel_rfl) (Or.inl ⟨by rfl, ?_⟩) hS ?_
            · intro w' hS'
              have s0 := hS'
              go_simp
            change wpAnyU _ _ _ _ _ _ _ _ (Act.put _ (some 53) _) _
            simp only [Act.put, List.setIfInBounds_toArray, List.set_cons_succ, List.set_cons_zero]
            refine wpAnyU_take (i := 2) (v := (.pointer (some ⟨a, 0, none⟩))) rfl (by kernel_rfl) (fun _ _ _ h => h) (leads_of [[7]] (by kernel_rfl)) (by kernel_rfl) (by kernel_rfl) (by kernel_rfl) (Or.inl ⟨by rfl, ?_⟩) hS ?_
            · intro w' hS'
              have s0 := hS'
              go_simp
            change wpAnyU _ _ _ _ _ _ _ _ (Act.put _ (some 54) _) _
            simp only [Act.put, List.setIfInBounds_toArray, List.set_cons_succ, List.set_cons_zero]
            refine wpAnyU_all (rs := [3]) (by kernel_rfl) (by simp) ?_
            intro j hj
            obtain rfl := List.mem_singleton.1 hj
            clear hj
            refine wpOp_shut rfl (fun K' HK => ?_)
            refine step_call rfl (f := 67) rfl Try.func67 (by kernel_rfl) rfl #[.pointer (some ⟨a, 0, none⟩)] (by simp only [List.map_toArray, List.map_cons, List.map_nil]; rfl) ?_
            refine (hG.e HX.out HD.out.p).mono ?_
            rintro e w1 ⟨rfl, hN⟩
            refine ⟨_, rfl, ?_⟩
            obtain ⟨ok1, v1, h1, m1⟩ := HD.out.call hN
            have H1 := hid h1
            have B1 := hid (BD.out.mv m1)
            have R1 := hid (RD.out.mv m1)
            have L1 := hid (LD.out.mv m1)
            clear hN h1 m1
            have z4 := B1.out.c (i := 4) (u := .slice A4 kids.length c4) rfl
            refine HK.out _ _ ⟨.inr ?_, ?_⟩
            · exact z4
            clear HK K'
            have hS := z4
            change wpAnyU _ _ _ _ _ _ _ _ (Act.put _ (some 55) _) _
            simp only [Act.put, List.setIfInBounds_toArray, List.set_cons_succ, List.set_cons_zero]
            refine wpAnyU_all (rs := [4]) (by kernel_rfl) (by simp) ?_
            intro j hj
            obtain rfl := List.mem_singleton.1 hj
            clear hj
            refine wpOp_shut rfl (fun K' HK => ?_)
            go_simp
            have HB6 := hid (below_alloc (Below.refl w1.heap.size w1) (.cells #[.int .i64 (x1 : Nat)] 3))
            refine HK.out _ _ ⟨.inr ?_, ?_⟩
            · exact keepc HB6.out z4
            clear HK K'
            have hS := keepc HB6.out z4
            try simp only [Act.put, List.setIfInBounds_toArray, List.set_cons_succ, List.set_cons_zero]
            refine wpAnyU_all (rs := [5]) (by kernel_rfl) (by simp) ?_
            intro j hj
            obtain rfl := List.mem_singleton.1 hj
            clear hj
            refine wpOp_shut rfl (fun K' HK => ?_)
            refine LR.append_step ?h0q16 (.tmp 53) (.tmp 56) ?h1q16 H1.out L1.out ?c1q16 ?c2q16 ?c3q16 ?c4q16 ?c5q16 ?_
            (case h0q16 => rfl)
            (case h1q16 => rfl)
            (case c1q16 => have := HBW.out; omega)
            (case c2q16 => exact B1.out.lt)
            (case c3q16 => exact HLEN.out.2)
            (case c4q16 => rfl)
            (case c5q16 => rfl)
            intro val1 w2 h2 r2 hg
            obtain ⟨A2, c2, e2⟩ := r2.slice
            rw [List.length_append, List.length_singleton] at e2
            subst e2
            have B2 := hid (B1.out.grownL L1.out (Nat.lt_succ_self _) hg)
            have R2 := hid (R1.out.grownL L1.out hg)
            have H2 := hid h2
            have L2 := hid r2
            clear hg h2 r2
            have zz4 := B2.out.c (i := 4) (u := .slice A4 kids.length c4) rfl
            have fz4 := B2.out.f 4
            refine HK.out _ _ ⟨.inr ?_, ?_⟩
            · exact zz4
            clear HK K'
            have hS := zz4
            change wpAnyU _ _ _ _ _ _ _ _ (Act.put _ (some 57) _) _
            simp only [Act.put, List.setIfInBounds_toArray, List.set_cons_succ, List.set_cons_zero]
            refine wpAnyU_take (i := 6) (v := (.pointer (some ⟨b, 4, none⟩))) rfl (by kernel_rfl) (fun _ _ _ h => h) (leads_of [[7]] (by kernel_rfl)) (by kernel_rfl) (by kernel_rfl) (by kernel_rfl) (Or.inl ⟨by rfl, ?_⟩) hS ?_
            · intro w' hS'
              have s0 := hS'
              go_simp
            change wpAnyU _ _ _ _ _ _ _ _ (Act.put _ (some 58) _) _
            simp only [Act.put, List.setIfInBounds_toArray, List.set_cons_succ, List.set_cons_zero]
            refine wpAnyU_all (rs := [7]) (by kernel_rfl) (by simp) ?_
            intro j hj
            obtain rfl := List.mem_singleton.1 hj
            clear hj
            refine wpOp_shut rfl (fun K' HK => ?_)
            go_simp
            refine HK.out _ _ ⟨.inl (by decide), ?_⟩
            clear HK K'
            refine wpAnyU_done (by kernel_rfl) ?_ _
            have H7 := hid (H2.out.setB B2.out 4 (.slice A2 (kids.length + 1) c2))
            have R := hid (R2.out.setB (Nat.lt_succ_self _) 4 (.slice A2 (kids.length + 1) c2))
            have L := hid (L2.out.setB (Nat.lt_succ_self _) 4 (.slice A2 (kids.length + 1) c2))
            have B := hid (B2.out.set (cs' := #[.int .i64 8, .int .i64 0, .string ⟨#[]⟩, .slice A5 (names.length + 1) c5', .slice A2 (kids.length + 1) c2, .int .i64 (at_ : Nat)]) 4 (.slice A2 (kids.length + 1) c2) rfl)
            clear hS HD BD RD LD H1 B1 R1 L1 HB6 H2 B2 R2 L2 z4 zz4 fz4 y4 HX hG
            go_wp2_with fail
            have hr := HR.out
            clear HR
            rcases Bool.eq_false_or_eq_true ((x3).hasB (⟨#[44]⟩ : ByteArray)) with hb | hb
            · skip
              rw [if_pos hb] at hr
              refine (has_hit H7.out.p (⟨#[44]⟩ : ByteArray) hb).mono ?_
              rintro e w8 ⟨rfl, hN⟩
              obtain ⟨ok8, v8, h8, m8⟩ := H7.out.call hN
              have H8 := hid h8
              replace B := hid (B.out.mv m8)
              replace R := hid (R.out.mv m8)
              replace L := hid (L.out.mv m8)
              clear hN h8 m8 H7
              clear hb
              have HRR := hid hr
              clear hr
              go_wp2_with fail
              go_roundg gk
              case measure => omega
              case rel => exact ⟨_, _, _, _, _, _, _, by omega, HRR, H8, B, R, L⟩
            · skip
              rw [if_f hb] at hr
              refine (has_miss H7.out.p (⟨#[44]⟩ : ByteArray) hb).mono ?_
              rintro e w8 ⟨rfl, hN⟩
              obtain ⟨ok8, v8, h8, m8⟩ := H7.out.call hN
              have H8 := hid h8
              replace B := hid (B.out.mv m8)
              replace R := hid (R.out.mv m8)
              replace L := hid (L.out.mv m8)
              clear hN h8 m8 H7
              clear hb
              unfold objEnd at hr
              obtain ⟨hr2, rfl⟩ := one1_some hr
              have HRR := hid hr2
              clear hr hr2
              go_wp2_with fail
              refine (must_c H8.out.p (⟨#[125]⟩ : ByteArray)).mono ?_
              rintro e w9 ⟨rfl, hN⟩
              obtain ⟨ok9, v9, h9, m9⟩ := H8.out.call hN
              have H9 := hid h9
              replace B := hid (B.out.mv m9)
              replace R := hid (R.out.mv m9)
              replace L := hid (L.out.mv m9)
              clear hN h9 m9 H8
              have n0 := B.out.c (i := 0) (u := .int .i64 8) rfl
              have n1 := B.out.c (i := 1) (u := .int .i64 0) rfl
              have n2 := B.out.c (i := 2) (u := .string ⟨#[]⟩) rfl
              have n3 := B.out.c (i := 3) (u := .slice A5 (names.length + 1) c5') rfl
              have n4 := B.out.c (i := 4) (u := .slice A2 (kids.length + 1) c2) rfl
              have n5 := B.out.c (i := 5) (u := .int .i64 (at_ : Nat)) rfl
              go_wp2_with fail
              clear n0 n1 n2 n3 n4 n5
              refine (put_both H9.out (R.out.le (by have := HBW.out; omega)) (L.out.le (by have := HBW.out; omega)) HRR.out).mono ?_
              rintro e wz ⟨rfl, hN⟩
              have HN := hid hN
              clear hN
              go_wp2_with fail
              go_ret
              exact ⟨ret_nat rfl, HN.out⟩
        · skip
          rw [hk] at c1
          clear hk
          have la := H0.out.p.lt
          have hr := HR.out
          clear HR
          rcases Bool.eq_false_or_eq_true (Sx.bad) with hd | hd
          · skip
            rw [if_pos hd] at hr
            rw [hd] at c9
            clear hd hG
            obtain ⟨rfl, rfl, rfl⟩ := some3 hr
            clear hr
            go_wp2_with fail
            go_ret
            exact ⟨ret_nat rfl, (H0.out.alloc (.cells #[.int .i64 4, .string Sx.t.text, .int .i64 Sx.t.num, .int .i64 (Sx.t.at_ : Nat), .bool Sx.t.line] 55)).nx⟩
          · skip
            rw [if_f hd] at hr
            rw [hd] at c9
            clear hd
            obtain ⟨⟨x1, x2, x3⟩, hx, hr2⟩ := Option.bind_eq_some_iff.1 hr
            have HX := hid hx
            clear hr hx
            dsimp only at hr2
            have hr := hr2
            clear hr2
            split at hr
            rotate_left
            · cases hr
            rename_i hlen
            have HLEN := hid hlen
            have HR := hid hr
            clear hr hlen
            go_wp2_with fail
            clear c1 c2 c3 c4 c5 c9 la
            have hnb : ¬ okx wr.heap.size := fun h => by have := H0.out.p.lo _ h; omega
            have hna : wr.heap.size ≠ a := fun e => by have := H0.out.p.lt; omega
            have hba : wr.heap.size ≠ b := fun e => by have := B.out.lt; omega
            have t1 : (wr.alloc (.cells #[.int .i64 4, .string Sx.t.text, .int .i64 Sx.t.num, .int .i64 (Sx.t.at_ : Nat), .bool Sx.t.line] 55)).cell? ⟨wr.heap.size, 1, none⟩ = some (.string Sx.t.text) := (cell_of_row _ _ 1 _ _ _ (heap_alloc_new wr (.cells #[.int .i64 4, .string Sx.t.text, .int .i64 Sx.t.num, .int .i64 (Sx.t.at_ : Nat), .bool Sx.t.line] 55))).trans rfl
            replace H0 := hid (H0.out.alloc (.cells #[.int .i64 4, .string Sx.t.text, .int .i64 Sx.t.num, .int .i64 (Sx.t.at_ : Nat), .bool Sx.t.line] 55))
            replace B := hid (B.out.below ((Below.refl _ _).alloc (Nat.le_refl _) (.cells #[.int .i64 4, .string Sx.t.text, .int .i64 Sx.t.num, .int .i64 (Sx.t.at_ : Nat), .bool Sx.t.line] 55)))
            replace R := hid (R.out.below ((Below.refl _ _).alloc (Nat.le_refl _) (.cells #[.int .i64 4, .string Sx.t.text, .int .i64 Sx.t.num, .int .i64 (Sx.t.at_ : Nat), .bool Sx.t.line] 55)))
            replace L := hid (L.out.below ((Below.refl _ _).alloc (Nat.le_refl _) (.cells #[.int .i64 4, .string Sx.t.text, .int .i64 Sx.t.num, .int .i64 (Sx.t.at_ : Nat), .bool Sx.t.line] 55)))
            refine (move_c H0.out.p).mono ?_
            rintro e w1 ⟨rfl, hN⟩
            obtain ⟨ok1, v1, h1, m1⟩ := H0.out.call hN
            have H1 := hid h1
            replace B := hid (B.out.mv m1)
            replace R := hid (R.out.mv m1)
            replace L := hid (L.out.mv m1)
            have t0 := t1
            replace t1 := m1.cell t0 hna hnb
            replace hnb : ¬ ok1 wr.heap.size := fun h => (m1.sub _ h).elim hnb (fun q => by have := World.block_lt_of_cell? _ _ t0; simp only at this; omega)
            clear t0
            clear hN h1 m1 H0
            go_wp2_with fail
            refine (must_c H1.out.p (⟨#[58]⟩ : ByteArray)).mono ?_
            rintro e w2 ⟨rfl, hN⟩
            obtain ⟨ok2, v2, h2, m2⟩ := H1.out.call hN
            have H2 := hid h2
            replace B := hid (B.out.mv m2)
            replace R := hid (R.out.mv m2)
            replace L := hid (L.out.mv m2)
            have t0 := t1
            replace t1 := m2.cell t0 hna hnb
            replace hnb : ¬ ok2 wr.heap.size := fun h => (m2.sub _ h).elim hnb (fun q => by have := World.block_lt_of_cell? _ _ t0; simp only at this; omega)
            clear t0
            clear hN h2 m2 H1
            have n3 := B.out.c (i := 3) (u := .slice A3 names.length c3) rfl
            go_upto_region 11 with (at_builtin; refine SR.append_wp rfl _ _ rfl H2.out R.out (by have := HBW.out; omega) B.out.lt HLEN.out.1 rfl rfl ?_; intro val1 w3 h3 r3 hg; obtain ⟨A5, c5', e5⟩ := r3.slice; rw [List.length_append, List.length_singleton] at e5; subst e5; have B3 := hid (B.out.grown R.out (Nat.lt_succ_self _) hg); have L3 := hid (L.out.grownS R.out hg); have H3 := hid h3; have R3 := hid r3; clear hg h3 r3; have m3 := B3.out.c (i := 3) (u := .slice A3 names.length c3) rfl; have fz3 := B3.out.f 3)
            replace H3 := hid (H3.out.setB B3.out 3 (.slice A5 (names.length + 1) c5'))
            replace R3 := hid (R3.out.setB (Nat.lt_succ_self _) 3 (.slice A5 (names.length + 1) c5'))
            replace L3 := hid (L3.out.setB (Nat.lt_succ_self _) 3 (.slice A5 (names.length + 1) c5'))
            replace B3 := hid (B3.out.set (cs' := #[.int .i64 8, .int .i64 0, .string ⟨#[]⟩, .slice A5 (names.length + 1) c5', .slice A4 kids.length c4, .int .i64 (at_ : Nat)]) 3 (.slice A5 (names.length + 1) c5') rfl)
            clear n3 m3 fz3 t1 hnb hna hba H2 B R L
            generalize (w3.setCell ⟨b, 3, none⟩ (.slice A5 (names.length + 1) c5')) = W3 at H3 R3 L3 B3 ⊢
            have y4 := B3.out.c (i := 4) (u := .slice A4 kids.length c4) rfl
            have HD := hid (H3.out.below (Below.refl W3.heap.size W3).drew)
            have BD := hid (B3.out.below (Below.refl W3.heap.size W3).drew)
            have RD := hid (R3.out.below (Below.refl W3.heap.size W3).drew)
            have LD := hid (L3.out.below (Below.refl W3.heap.size W3).drew)
            clear H3 B3 R3 L3
            refine wp_region_until [7] (S := (fun w' => w'.cell? ⟨b, 4, none⟩ = some (.slice A4 kids.length c4))) (by kernel_rfl) ?_ ?_
            · go_keep
            intro hS
            refine wpAnyU_take (i := 0) (v := (.pointer (some ⟨b, 4, none⟩))) rfl (by kernel_rfl) (fun _ _ _ h => h) (leads_of [[7]] (by kernel_rfl)) (by kernel_rfl) (by kernel_rfl) (by kernel_rfl) (Or.inl ⟨by rfl, ?_⟩) hS ?_
            · intro w' hS'
              have s0 := hS'
              go_simp
            change wpAnyU _ _ _ _ _ _ _ _ (Act.put _ (some 52) _) _
            simp only [Act.put, List.setIfInBounds_toArray, List.set_cons_succ, List.set_cons_zero]
            refine wpAnyU_take (i := 1) (v := (.slice A4 kids.length c4)) rfl (by kernel_rfl) (fun _ _ _ h => h) (leads_of [[7]] (by kernel_rfl)) (by kernel_rfl) (by kernel_rfl) (by kernel_rfl) (Or.inl ⟨by rfl, ?_⟩) hS ?_
            · intro w' hS'
              have s0 := hS'
              go_simp
            change wpAnyU _ _ _ _ _ _ _ _ (Act.put _ (some 53) _) _
            simp only [Act.put, List.setIfInBounds_toArray, List.set_cons_succ, List.set_cons_zero]
            refine wpAnyU_take (i := 2) (v := (.pointer (some ⟨a, 0, none⟩))) rfl (by kernel_rfl) (fun _ _ _ h => h) (leads_of [[7]] (by kernel_rfl)) (by kernel_rfl) (by kernel_rfl) (by kernel_rfl) (Or.inl ⟨by rfl, ?_⟩) hS ?_
            · intro w' hS'
              have s0 := hS'
              go_simp
            change wpAnyU _ _ _ _ _ _ _ _ (Act.put _ (some 54) _) _
            simp only [Act.put, List.setIfInBounds_toArray, List.set_cons_succ, List.set_cons_zero]
            refine wpAnyU_all (rs := [3]) (by kernel_rfl) (by simp) ?_
            intro j hj
            obtain rfl := List.mem_singleton.1 hj
            clear hj
            refine wpOp_shut rfl (fun K' HK => ?_)
            refine step_call rfl (f := 67) rfl Try.func67 (by kernel_rfl) rfl #[.pointer (some ⟨a, 0, none⟩)] (by simp only [List.map_toArray, List.map_cons, List.map_nil]; rfl) ?_
            refine (hG.e HX.out HD.out.p).mono ?_
            rintro e w1 ⟨rfl, hN⟩
            refine ⟨_, rfl, ?_⟩
            obtain ⟨ok1, v1, h1, m1⟩ := HD.out.call hN
            have H1 := hid h1
            have B1 := hid (BD.out.mv m1)
            have R1 := hid (RD.out.mv m1)
            have L1 := hid (LD.out.mv m1)
            clear hN h1 m1
            have z4 := B1.out.c (i := 4) (u := .slice A4 kids.length c4) rfl
            refine HK.out _ _ ⟨.inr ?_, ?_⟩
            · exact z4
            clear HK K'
            have hS := z4
            change wpAnyU _ _ _ _ _ _ _ _ (Act.put _ (some 55) _) _
            simp only [Act.put, List.setIfInBounds_toArray, List.set_cons_succ, List.set_cons_zero]
            refine wpAnyU_all (rs := [4]) (by kernel_rfl) (by simp) ?_
            intro j hj
            obtain rfl := List.mem_singleton.1 hj
            clear hj
            refine wpOp_shut rfl (fun K' HK => ?_)
            go_simp
            have HB6 := hid (below_alloc (Below.refl w1.heap.size w1) (.cells #[.int .i64 (x1 : Nat)] 3))
            refine HK.out _ _ ⟨.inr ?_, ?_⟩
            · exact keepc HB6.out z4
            clear HK K'
            have hS := keepc HB6.out z4
            try simp only [Act.put, List.setIfInBounds_toArray, List.set_cons_succ, List.set_cons_zero]
            refine wpAnyU_all (rs := [5]) (by kernel_rfl) (by simp) ?_
            intro j hj
            obtain rfl := List.mem_singleton.1 hj
            clear hj
            refine wpOp_shut rfl (fun K' HK => ?_)
            refine LR.append_step ?h0q17 (.tmp 53) (.tmp 56) ?h1q17 H1.out L1.out ?c1q17 ?c2q17 ?c3q17 ?c4q17 ?c5q17 ?_
            (case h0q17 => rfl)
            (case h1q17 => rfl)
            (case c1q17 => have := HBW.out; omega)
            (case c2q17 => exact B1.out.lt)
            (case c3q17 => exact HLEN.out.2)
            (case c4q17 => rfl)
            (case c5q17 => rfl)
            intro val1 w2 h2 r2 hg
            obtain ⟨A2, c2, e2⟩ := r2.slice
            rw [List.length_append, List.length_singleton] at e2
            subst e2
            have B2 := hid (B1.out.grownL L1.out (Nat.lt_succ_self _) hg)
            have R2 := hid (R1.out.grownL L1.out hg)
            have H2 := hid h2
            have L2 := hid r2
            clear hg h2 r2
            have zz4 := B2.out.c (i := 4) (u := .slice A4 kids.length c4) rfl
            have fz4 := B2.out.f 4
            refine HK.out _ _ ⟨.inr ?_, ?_⟩
            · exact zz4
            clear HK K'
            have hS := zz4
            change wpAnyU _ _ _ _ _ _ _ _ (Act.put _ (some 57) _) _
            simp only [Act.put, List.setIfInBounds_toArray, List.set_cons_succ, List.set_cons_zero]
            refine wpAnyU_take (i := 6) (v := (.pointer (some ⟨b, 4, none⟩))) rfl (by kernel_rfl) (fun _ _ _ h => h) (leads_of [[7]] (by kernel_rfl)) (by kernel_rfl) (by kernel_rfl) (by kernel_rfl) (Or.inl ⟨by rfl, ?_⟩) hS ?_
            · intro w' hS'
              have s0 := hS'
              go_simp
            change wpAnyU _ _ _ _ _ _ _ _ (Act.put _ (some 58) _) _
            simp only [Act.put, List.setIfInBounds_toArray, List.set_cons_succ, List.set_cons_zero]
            refine wpAnyU_all (rs := [7]) (by kernel_rfl) (by simp) ?_
            intro j hj
            obtain rfl := List.mem_singleton.1 hj
            clear hj
            refine wpOp_shut rfl (fun K' HK => ?_)
            go_simp
            refine HK.out _ _ ⟨.inl (by decide), ?_⟩
            clear HK K'
            refine wpAnyU_done (by kernel_rfl) ?_ _
            have H7 := hid (H2.out.setB B2.out 4 (.slice A2 (kids.length + 1) c2))
            have R := hid (R2.out.setB (Nat.lt_succ_self _) 4 (.slice A2 (kids.length + 1) c2))
            have L := hid (L2.out.setB (Nat.lt_succ_self _) 4 (.slice A2 (kids.length + 1) c2))
            have B := hid (B2.out.set (cs' := #[.int .i64 8, .int .i64 0, .string ⟨#[]⟩, .slice A5 (names.length + 1) c5', .slice A2 (kids.length + 1) c2, .int .i64 (at_ : Nat)]) 4 (.slice A2 (kids.length + 1) c2) rfl)
            clear hS HD BD RD LD H1 B1 R1 L1 HB6 H2 B2 R2 L2 z4 zz4 fz4 y4 HX hG
            go_wp2_with fail
            have hr := HR.out
            clear HR
            rcases Bool.eq_false_or_eq_true ((x3).hasB (⟨#[44]⟩ : ByteArray)) with hb | hb
            · skip
              rw [if_pos hb] at hr
              refine (has_hit H7.out.p (⟨#[44]⟩ : ByteArray) hb).mono ?_
              rintro e w8 ⟨rfl, hN⟩
              obtain ⟨ok8, v8, h8, m8⟩ := H7.out.call hN
              have H8 := hid h8
              replace B := hid (B.out.mv m8)
              replace R := hid (R.out.mv m8)
              replace L := hid (L.out.mv m8)
              clear hN h8 m8 H7
              clear hb
              have HRR := hid hr
              clear hr
              go_wp2_with fail
              go_roundg gk
              case measure => omega
              case rel => exact ⟨_, _, _, _, _, _, _, by omega, HRR, H8, B, R, L⟩
            · skip
              rw [if_f hb] at hr
              refine (has_miss H7.out.p (⟨#[44]⟩ : ByteArray) hb).mono ?_
              rintro e w8 ⟨rfl, hN⟩
              obtain ⟨ok8, v8, h8, m8⟩ := H7.out.call hN
              have H8 := hid h8
              replace B := hid (B.out.mv m8)
              replace R := hid (R.out.mv m8)
              replace L := hid (L.out.mv m8)
              clear hN h8 m8 H7
              clear hb
              unfold objEnd at hr
              obtain ⟨hr2, rfl⟩ := one1_some hr
              have HRR := hid hr2
              clear hr hr2
              go_wp2_with fail
              refine (must_c H8.out.p (⟨#[125]⟩ : ByteArray)).mono ?_
              rintro e w9 ⟨rfl, hN⟩
              obtain ⟨ok9, v9, h9, m9⟩ := H8.out.call hN
              have H9 := hid h9
              replace B := hid (B.out.mv m9)
              replace R := hid (R.out.mv m9)
              replace L := hid (L.out.mv m9)
              clear hN h9 m9 H8
              have n0 := B.out.c (i := 0) (u := .int .i64 8) rfl
              have n1 := B.out.c (i := 1) (u := .int .i64 0) rfl
              have n2 := B.out.c (i := 2) (u := .string ⟨#[]⟩) rfl
              have n3 := B.out.c (i := 3) (u := .slice A5 (names.length + 1) c5') rfl
              have n4 := B.out.c (i := 4) (u := .slice A2 (kids.length + 1) c2) rfl
              have n5 := B.out.c (i := 5) (u := .int .i64 (at_ : Nat)) rfl
              go_wp2_with fail
              clear n0 n1 n2 n3 n4 n5
              refine (put_both H9.out (R.out.le (by have := HBW.out; omega)) (L.out.le (by have := HBW.out; omega)) HRR.out).mono ?_
              rintro e wz ⟨rfl, hN⟩
              have HN := hid hN
              clear hN
              go_wp2_with fail
              go_ret
              exact ⟨ret_nat rfl, HN.out⟩
        · skip
          rw [hk] at c1
          clear hk
          have la := H0.out.p.lt
          have hr := HR.out
          clear HR
          rcases Bool.eq_false_or_eq_true (Sx.bad) with hd | hd
          · skip
            rw [if_pos hd] at hr
            rw [hd] at c9
            clear hd hG
            obtain ⟨rfl, rfl, rfl⟩ := some3 hr
            clear hr
            go_wp2_with fail
            go_ret
            exact ⟨ret_nat rfl, (H0.out.alloc (.cells #[.int .i64 2, .string Sx.t.text, .int .i64 Sx.t.num, .int .i64 (Sx.t.at_ : Nat), .bool Sx.t.line] 55)).nx⟩
          · skip
            rw [if_f hd] at hr
            rw [hd] at c9
            clear hd
            obtain ⟨⟨x1, x2, x3⟩, hx, hr2⟩ := Option.bind_eq_some_iff.1 hr
            have HX := hid hx
            clear hr hx
            dsimp only at hr2
            have hr := hr2
            clear hr2
            split at hr
            rotate_left
            · cases hr
            rename_i hlen
            have HLEN := hid hlen
            have HR := hid hr
            clear hr hlen
            go_wp2_with fail
            clear c1 c2 c3 c4 c5 c9 la
            have hnb : ¬ okx wr.heap.size := fun h => by have := H0.out.p.lo _ h; omega
            have hna : wr.heap.size ≠ a := fun e => by have := H0.out.p.lt; omega
            have hba : wr.heap.size ≠ b := fun e => by have := B.out.lt; omega
            have t1 : (wr.alloc (.cells #[.int .i64 2, .string Sx.t.text, .int .i64 Sx.t.num, .int .i64 (Sx.t.at_ : Nat), .bool Sx.t.line] 55)).cell? ⟨wr.heap.size, 1, none⟩ = some (.string Sx.t.text) := (cell_of_row _ _ 1 _ _ _ (heap_alloc_new wr (.cells #[.int .i64 2, .string Sx.t.text, .int .i64 Sx.t.num, .int .i64 (Sx.t.at_ : Nat), .bool Sx.t.line] 55))).trans rfl
            replace H0 := hid (H0.out.alloc (.cells #[.int .i64 2, .string Sx.t.text, .int .i64 Sx.t.num, .int .i64 (Sx.t.at_ : Nat), .bool Sx.t.line] 55))
            replace B := hid (B.out.below ((Below.refl _ _).alloc (Nat.le_refl _) (.cells #[.int .i64 2, .string Sx.t.text, .int .i64 Sx.t.num, .int .i64 (Sx.t.at_ : Nat), .bool Sx.t.line] 55)))
            replace R := hid (R.out.below ((Below.refl _ _).alloc (Nat.le_refl _) (.cells #[.int .i64 2, .string Sx.t.text, .int .i64 Sx.t.num, .int .i64 (Sx.t.at_ : Nat), .bool Sx.t.line] 55)))
            replace L := hid (L.out.below ((Below.refl _ _).alloc (Nat.le_refl _) (.cells #[.int .i64 2, .string Sx.t.text, .int .i64 Sx.t.num, .int .i64 (Sx.t.at_ : Nat), .bool Sx.t.line] 55)))
            refine (move_c H0.out.p).mono ?_
            rintro e w1 ⟨rfl, hN⟩
            obtain ⟨ok1, v1, h1, m1⟩ := H0.out.call hN
            have H1 := hid h1
            replace B := hid (B.out.mv m1)
            replace R := hid (R.out.mv m1)
            replace L := hid (L.out.mv m1)
            have t0 := t1
            replace t1 := m1.cell t0 hna hnb
            replace hnb : ¬ ok1 wr.heap.size := fun h => (m1.sub _ h).elim hnb (fun q => by have := World.block_lt_of_cell? _ _ t0; simp only at this; omega)
            clear t0
            clear hN h1 m1 H0
            go_wp2_with fail
            refine (must_c H1.out.p (⟨#[58]⟩ : ByteArray)).mono ?_
            rintro e w2 ⟨rfl, hN⟩
            obtain ⟨ok2, v2, h2, m2⟩ := H1.out.call hN
            have H2 := hid h2
            replace B := hid (B.out.mv m2)
            replace R := hid (R.out.mv m2)
            replace L := hid (L.out.mv m2)
            have t0 := t1
            replace t1 := m2.cell t0 hna hnb
            replace hnb : ¬ ok2 wr.heap.size := fun h => (m2.sub _ h).elim hnb (fun q => by have := World.block_lt_of_cell? _ _ t0; simp only at this; omega)
            clear t0
            clear hN h2 m2 H1
            have n3 := B.out.c (i := 3) (u := .slice A3 names.length c3) rfl
            go_upto_region 11 with (at_builtin; refine SR.append_wp rfl _ _ rfl H2.out R.out (by have := HBW.out; omega) B.out.lt HLEN.out.1 rfl rfl ?_; intro val1 w3 h3 r3 hg; obtain ⟨A5, c5', e5⟩ := r3.slice; rw [List.length_append, List.length_singleton] at e5; subst e5; have B3 := hid (B.out.grown R.out (Nat.lt_succ_self _) hg); have L3 := hid (L.out.grownS R.out hg); have H3 := hid h3; have R3 := hid r3; clear hg h3 r3; have m3 := B3.out.c (i := 3) (u := .slice A3 names.length c3) rfl; have fz3 := B3.out.f 3)
            replace H3 := hid (H3.out.setB B3.out 3 (.slice A5 (names.length + 1) c5'))
            replace R3 := hid (R3.out.setB (Nat.lt_succ_self _) 3 (.slice A5 (names.length + 1) c5'))
            replace L3 := hid (L3.out.setB (Nat.lt_succ_self _) 3 (.slice A5 (names.length + 1) c5'))
            replace B3 := hid (B3.out.set (cs' := #[.int .i64 8, .int .i64 0, .string ⟨#[]⟩, .slice A5 (names.length + 1) c5', .slice A4 kids.length c4, .int .i64 (at_ : Nat)]) 3 (.slice A5 (names.length + 1) c5') rfl)
            clear n3 m3 fz3 t1 hnb hna hba H2 B R L
            generalize (w3.setCell ⟨b, 3, none⟩ (.slice A5 (names.length + 1) c5')) = W3 at H3 R3 L3 B3 ⊢
            have y4 := B3.out.c (i := 4) (u := .slice A4 kids.length c4) rfl
            have HD := hid (H3.out.below (Below.refl W3.heap.size W3).drew)
            have BD := hid (B3.out.below (Below.refl W3.heap.size W3).drew)
            have RD := hid (R3.out.below (Below.refl W3.heap.size W3).drew)
            have LD := hid (L3.out.below (Below.refl W3.heap.size W3).drew)
            clear H3 B3 R3 L3
            refine wp_region_until [7] (S := (fun w' => w'.cell? ⟨b, 4, none⟩ = some (.slice A4 kids.length c4))) (by kernel_rfl) ?_ ?_
            · go_keep
            intro hS
            refine wpAnyU_take (i := 0) (v := (.pointer (some ⟨b, 4, none⟩))) rfl (by kernel_rfl) (fun _ _ _ h => h) (leads_of [[7]] (by kernel_rfl)) (by kernel_rfl) (by kernel_rfl) (by kernel_rfl) (Or.inl ⟨by rfl, ?_⟩) hS ?_
            · intro w' hS'
              have s0 := hS'
              go_simp
            change wpAnyU _ _ _ _ _ _ _ _ (Act.put _ (some 52) _) _
            simp only [Act.put, List.setIfInBounds_toArray, List.set_cons_succ, List.set_cons_zero]
            refine wpAnyU_take (i := 1) (v := (.slice A4 kids.length c4)) rfl (by kernel_rfl) (fun _ _ _ h => h) (leads_of [[7]] (by kernel_rfl)) (by kernel_rfl) (by kernel_rfl) (by kernel_rfl) (Or.inl ⟨by rfl, ?_⟩) hS ?_
            · intro w' hS'
              have s0 := hS'
              go_simp
            change wpAnyU _ _ _ _ _ _ _ _ (Act.put _ (some 53) _) _
            simp only [Act.put, List.setIfInBounds_toArray, List.set_cons_succ, List.set_cons_zero]
            refine wpAnyU_take (i := 2) (v := (.pointer (some ⟨a, 0, none⟩))) rfl (by kernel_rfl) (fun _ _ _ h => h) (leads_of [[7]] (by kernel_rfl)) (by kernel_rfl) (by kernel_rfl) (by kernel_rfl) (Or.inl ⟨by rfl, ?_⟩) hS ?_
            · intro w' hS'
              have s0 := hS'
              go_simp
            change wpAnyU _ _ _ _ _ _ _ _ (Act.put _ (some 54) _) _
            simp only [Act.put, List.setIfInBounds_toArray, List.set_cons_succ, List.set_cons_zero]
            refine wpAnyU_all (rs := [3]) (by kernel_rfl) (by simp) ?_
            intro j hj
            obtain rfl := List.mem_singleton.1 hj
            clear hj
            refine wpOp_shut rfl (fun K' HK => ?_)
            refine step_call rfl (f := 67) rfl Try.func67 (by kernel_rfl) rfl #[.pointer (some ⟨a, 0, none⟩)] (by simp only [List.map_toArray, List.map_cons, List.map_nil]; rfl) ?_
            refine (hG.e HX.out HD.out.p).mono ?_
            rintro e w1 ⟨rfl, hN⟩
            refine ⟨_, rfl, ?_⟩
            obtain ⟨ok1, v1, h1, m1⟩ := HD.out.call hN
            have H1 := hid h1
            have B1 := hid (BD.out.mv m1)
            have R1 := hid (RD.out.mv m1)
            have L1 := hid (LD.out.mv m1)
            clear hN h1 m1
            have z4 := B1.out.c (i := 4) (u := .slice A4 kids.length c4) rfl
            refine HK.out _ _ ⟨.inr ?_, ?_⟩
            · exact z4
            clear HK K'
            have hS := z4
            change wpAnyU _ _ _ _ _ _ _ _ (Act.put _ (some 55) _) _
            simp only [Act.put, List.setIfInBounds_toArray, List.set_cons_succ, List.set_cons_zero]
            refine wpAnyU_all (rs := [4]) (by kernel_rfl) (by simp) ?_
            intro j hj
            obtain rfl := List.mem_singleton.1 hj
            clear hj
            refine wpOp_shut rfl (fun K' HK => ?_)
            go_simp
            have HB6 := hid (below_alloc (Below.refl w1.heap.size w1) (.cells #[.int .i64 (x1 : Nat)] 3))
            refine HK.out _ _ ⟨.inr ?_, ?_⟩
            · exact keepc HB6.out z4
            clear HK K'
            have hS := keepc HB6.out z4
            try simp only [Act.put, List.setIfInBounds_toArray, List.set_cons_succ, List.set_cons_zero]
            refine wpAnyU_all (rs := [5]) (by kernel_rfl) (by simp) ?_
            intro j hj
            obtain rfl := List.mem_singleton.1 hj
            clear hj
            refine wpOp_shut rfl (fun K' HK => ?_)
            refine LR.append_step ?h0q18 (.tmp 53) (.tmp 56) ?h1q18 H1.out L1.out ?c1q18 ?c2q18 ?c3q18 ?c4q18 ?c5q18 ?_
            (case h0q18 => rfl)
            (case h1q18 => rfl)
            (case c1q18 => have := HBW.out; omega)
            (case c2q18 => exact B1.out.lt)
            (case c3q18 => exact HLEN.out.2)
            (case c4q18 => rfl)
            (case c5q18 => rfl)
            intro val1 w2 h2 r2 hg
            obtain ⟨A2, c2, e2⟩ := r2.slice
            rw [List.length_append, List.length_singleton] at e2
            subst e2
            have B2 := hid (B1.out.grownL L1.out (Nat.lt_succ_self _) hg)
            have R2 := hid (R1.out.grownL L1.out hg)
            have H2 := hid h2
            have L2 := hid r2
            clear hg h2 r2
            have zz4 := B2.out.c (i := 4) (u := .slice A4 kids.length c4) rfl
            have fz4 := B2.out.f 4
            refine HK.out _ _ ⟨.inr ?_, ?_⟩
            · exact zz4
            clear HK K'
            have hS := zz4
            change wpAnyU _ _ _ _ _ _ _ _ (Act.put _ (some 57) _) _
            simp only [Act.put, List.setIfInBounds_toArray, List.set_cons_succ, List.set_cons_zero]
            refine wpAnyU_take (i := 6) (v := (.pointer (some ⟨b, 4, none⟩))) rfl (by kernel_rfl) (fun _ _ _ h => h) (leads_of [[7]] (by kernel_rfl)) (by kernel_rfl) (by kernel_rfl) (by kernel_rfl) (Or.inl ⟨by rfl, ?_⟩) hS ?_
            · intro w' hS'
              have s0 := hS'
              go_simp
            change wpAnyU _ _ _ _ _ _ _ _ (Act.put _ (some 58) _) _
            simp only [Act.put, List.setIfInBounds_toArray, List.set_cons_succ, List.set_cons_zero]
            refine wpAnyU_all (rs := [7]) (by kernel_rfl) (by simp) ?_
            intro j hj
            obtain rfl := List.mem_singleton.1 hj
            clear hj
            refine wpOp_shut rfl (fun K' HK => ?_)
            go_simp
            refine HK.out _ _ ⟨.inl (by decide), ?_⟩
            clear HK K'
            refine wpAnyU_done (by kernel_rfl) ?_ _
            have H7 := hid (H2.out.setB B2.out 4 (.slice A2 (kids.length + 1) c2))
            have R := hid (R2.out.setB (Nat.lt_succ_self _) 4 (.slice A2 (kids.length + 1) c2))
            have L := hid (L2.out.setB (Nat.lt_succ_self _) 4 (.slice A2 (kids.length + 1) c2))
            have B := hid (B2.out.set (cs' := #[.int .i64 8, .int .i64 0, .string ⟨#[]⟩, .slice A5 (names.length + 1) c5', .slice A2 (kids.length + 1) c2, .int .i64 (at_ : Nat)]) 4 (.slice A2 (kids.length + 1) c2) rfl)
            clear hS HD BD RD LD H1 B1 R1 L1 HB6 H2 B2 R2 L2 z4 zz4 fz4 y4 HX hG
            go_wp2_with fail
            have hr := HR.out
            clear HR
            rcases Bool.eq_false_or_eq_true ((x3).hasB (⟨#[44]⟩ : ByteArray)) with hb | hb
            · skip
              rw [if_pos hb] at hr
              refine (has_hit H7.out.p (⟨#[44]⟩ : ByteArray) hb).mono ?_
              rintro e w8 ⟨rfl, hN⟩
              obtain ⟨ok8, v8, h8, m8⟩ := H7.out.call hN
              have H8 := hid h8
              replace B := hid (B.out.mv m8)
              replace R := hid (R.out.mv m8)
              replace L := hid (L.out.mv m8)
              clear hN h8 m8 H7
              clear hb
              have HRR := hid hr
              clear hr
              go_wp2_with fail
              go_roundg gk
              case measure => omega
              case rel => exact ⟨_, _, _, _, _, _, _, by omega, HRR, H8, B, R, L⟩
            · skip
              rw [if_f hb] at hr
              refine (has_miss H7.out.p (⟨#[44]⟩ : ByteArray) hb).mono ?_
              rintro e w8 ⟨rfl, hN⟩
              obtain ⟨ok8, v8, h8, m8⟩ := H7.out.call hN
              have H8 := hid h8
              replace B := hid (B.out.mv m8)
              replace R := hid (R.out.mv m8)
              replace L := hid (L.out.mv m8)
              clear hN h8 m8 H7
              clear hb
              unfold objEnd at hr
              obtain ⟨hr2, rfl⟩ := one1_some hr
              have HRR := hid hr2
              clear hr hr2
              go_wp2_with fail
              refine (must_c H8.out.p (⟨#[125]⟩ : ByteArray)).mono ?_
              rintro e w9 ⟨rfl, hN⟩
              obtain ⟨ok9, v9, h9, m9⟩ := H8.out.call hN
              have H9 := hid h9
              replace B := hid (B.out.mv m9)
              replace R := hid (R.out.mv m9)
              replace L := hid (L.out.mv m9)
              clear hN h9 m9 H8
              have n0 := B.out.c (i := 0) (u := .int .i64 8) rfl
              have n1 := B.out.c (i := 1) (u := .int .i64 0) rfl
              have n2 := B.out.c (i := 2) (u := .string ⟨#[]⟩) rfl
              have n3 := B.out.c (i := 3) (u := .slice A5 (names.length + 1) c5') rfl
              have n4 := B.out.c (i := 4) (u := .slice A2 (kids.length + 1) c2) rfl
              have n5 := B.out.c (i := 5) (u := .int .i64 (at_ : Nat)) rfl
              go_wp2_with fail
              clear n0 n1 n2 n3 n4 n5
              refine (put_both H9.out (R.out.le (by have := HBW.out; omega)) (L.out.le (by have := HBW.out; omega)) HRR.out).mono ?_
              rintro e wz ⟨rfl, hN⟩
              have HN := hid hN
              clear hN
              go_wp2_with fail
              go_ret
              exact ⟨ret_nat rfl, HN.out⟩
end
end Go.Proofs.Ytibepkblgliooaa.Q
