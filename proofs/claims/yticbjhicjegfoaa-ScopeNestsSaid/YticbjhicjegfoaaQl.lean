/- Rows of statements, of expressions: walked. -/
import Derived.Test.YticbjhicjegfoaaQh
namespace Go.Proofs.Yticbjhicjegfoaa.Q
open Go.RowKit
open Go.Proofs.YticbjhicjegfoaaW.PrintWords

section
variable {n k : Nat} {ks : List Nat} {S S' : Ps} {w : World} {a : Nat} {ok : Nat → Prop} {v : Value}
set_option maxHeartbeats 1600000 in
set_option maxRecDepth 100000 in
theorem list_w {last : Bool} (G : ∀ m, m < n → Good m) (hr : run n (.list last []) S = some (k, ks, S')) (h : PI w a ok v S) : Calls Try.prog 29 #[ptr a, .bool last] w (RetL w a ok ks S') := by
  have HG := hid G
  have HR0 := hid hr
  have H0 := hid (At.start h)
  clear G hr h
  unfold ptr
  go_enter Try.func29, Try.ntmps29
  go_wp2_with fail
  go_loopg [5] n (fun g x wx => ∃ okx vx Sx acc, g ≤ n ∧ Box (run g (.list last acc) Sx = some (k, ks, S')) ∧ Box (At w a ok wx okx vx Sx) ∧ Box (LR w.heap.size wx a okx x acc))
  case atStart => exact ⟨ok, v, S, [], Nat.le_refl _, HR0, H0, hid (LR.nil _ _ _ _)⟩
  case round =>
    clear H0 HR0
    obtain ⟨okx, vx, Sx, acc, hgk, HR, H0, L⟩ := hrel
    have hr := HR.out
    clear HR
    cases gk with
    | zero => cases hr
    | succ gk =>
    have hG := HG.out gk hgk
    clear HG
    change listF (run gk) last acc Sx = _ at hr
    unfold listF at hr

    have c9 := H0.out.p.c9
    rcases Bool.eq_false_or_eq_true (Sx.bad) with hb | hb
    · skip
      rw [if_pos hb] at hr
      obtain ⟨rfl, rfl, rfl⟩ := some3 hr
      clear hr
      rw [hb] at c9
      clear hb
      go_wp2_with fail
      go_ret
      exact ⟨_, _, _, rfl, H0.out, L.out⟩
    · skip
      rw [if_f hb] at hr
      rw [hb] at c9
      clear hb
      cases last
      · skip
        rcases Bool.eq_false_or_eq_true (Sx.is (⟨#[125]⟩ : ByteArray)) with hb | hb
        · skip
          rw [if_pos (by simp [hb])] at hr
          obtain ⟨rfl, rfl, rfl⟩ := some3 hr
          clear hr
          have HI := hid (is_hit H0.out.p (⟨#[125]⟩ : ByteArray) hb)
          clear hb
          go_wp2_with fail
          clear c9
          refine (HI.out).mono ?_
          rintro e w' ⟨rfl, rfl⟩
          go_wp2_with fail
          go_ret
          exact ⟨_, _, _, rfl, H0.out, L.out⟩
        · skip
          rw [if_neg (by simp [hb])] at hr
          have HI := hid (is_hit H0.out.p (⟨#[125]⟩ : ByteArray) hb)
          clear hb
          obtain ⟨⟨x1, x2, x3⟩, hx, hr2⟩ := Option.bind_eq_some_iff.1 hr
          have HX := hid hx
          clear hr hx
          dsimp only at hr2
          have hr := hr2
          clear hr2
          split at hr
          rotate_left
          · cases hr
          rename_i hm
          have HRR := hid hr
          clear hr
          go_wp2_with fail
          clear c9
          refine (HI.out).mono ?_
          rintro e w' ⟨rfl, rfl⟩
          go_wp2_with fail
          refine (hG.stmt HX.out H0.out.p).mono ?_
          rintro e w1 ⟨rfl, hN⟩
          obtain ⟨ok1, v1, h1, m1⟩ := H0.out.call hN
          have H1 := hid h1
          replace L := hid (L.out.mv m1)
          clear hN h1 m1 H0
          go_wp2_with (at_builtin; refine LR.append_wp rfl _ _ rfl H1.out L.out (hm) rfl rfl ?_; intro val2 w2 h2 l2; have H2 := hid h2; have Ln := hid l2; clear h2 l2 H1 L)
          have L := Ln
          clear Ln
          clear hG
          go_wp2_with fail
          go_roundg gk
          case measure => omega
          case rel => exact ⟨_, _, _, _, by omega, HRR, H2, L⟩
      · skip
        have c1 := H0.out.p.c1
        rcases Bool.eq_false_or_eq_true (decide (Sx.t.kind = 0)) with hb | hb
        · skip
          have hk : Sx.t.kind = 0 := by simpa using hb
          rw [if_pos (by simp [hb])] at hr
          obtain ⟨rfl, rfl, rfl⟩ := some3 hr
          clear hr
          rw [hk] at c1
          clear hb hk
          go_wp2_with fail
          go_ret
          exact ⟨_, _, _, rfl, H0.out, L.out⟩
        · skip
          have hk : ¬ Sx.t.kind = 0 := by simpa using hb
          rw [if_neg (by simp [hb])] at hr
          clear hb
          obtain ⟨⟨x1, x2, x3⟩, hx, hr2⟩ := Option.bind_eq_some_iff.1 hr
          have HX := hid hx
          clear hr hx
          dsimp only at hr2
          have hr := hr2
          clear hr2
          split at hr
          rotate_left
          · cases hr
          rename_i hm
          have HRR := hid hr
          clear hr
          go_wp2_with fail
          clear c9 c1
          refine (hG.stmt HX.out H0.out.p).mono ?_
          rintro e w1 ⟨rfl, hN⟩
          obtain ⟨ok1, v1, h1, m1⟩ := H0.out.call hN
          have H1 := hid h1
          replace L := hid (L.out.mv m1)
          clear hN h1 m1 H0
          go_wp2_with (at_builtin; refine LR.append_wp rfl _ _ rfl H1.out L.out (hm) rfl rfl ?_; intro val2 w2 h2 l2; have H2 := hid h2; have Ln := hid l2; clear h2 l2 H1 L)
          have L := Ln
          clear Ln
          clear hG
          go_wp2_with fail
          go_roundg gk
          case measure => omega
          case rel => exact ⟨_, _, _, _, by omega, HRR, H2, L⟩
set_option maxHeartbeats 1600000 in
set_option maxRecDepth 100000 in
theorem commas_w {last : ByteArray} (G : ∀ m, m < n → Good m) (hr : run n (.commas last) S = some (k, ks, S')) (h : PI w a ok v S) : Calls Try.prog 105 #[ptr a, .string last] w (RetL w a ok ks S') := by
  cases n with
  | zero => cases hr
  | succ n =>
  have hG := G n (Nat.lt_succ_self n)
  change commasF (run n) last S = _ at hr
  have H0 := hid (At.start h)
  have HG := hid G
  clear G h
  unfold commasF at hr
  have HR0 := hid hr
  clear hr
  unfold ptr
  go_enter Try.func105, Try.ntmps105
  go_wp2_with fail
  have hr := HR0.out
  clear HR0
  rcases Bool.eq_false_or_eq_true (S.hasB last) with hb | hb
  · skip
    rw [if_pos hb] at hr
    refine (has_hit H0.out.p last hb).mono ?_
    rintro e w1 ⟨rfl, hN⟩
    obtain ⟨ok1, v1, h1, m1⟩ := H0.out.call hN
    have H1 := hid h1
    clear hN h1 m1 H0
    clear hb
    clear HG
    obtain ⟨rfl, rfl, rfl⟩ := some3 hr
    clear hr
    go_wp2_with fail
    go_ret
    exact ⟨_, ok1, v1, rfl, H1.out, LR.nil _ _ _ _⟩
  · skip
    rw [if_f hb] at hr
    refine (has_miss H0.out.p last hb).mono ?_
    rintro e w1 ⟨rfl, hN⟩
    obtain ⟨ok1, v1, h1, m1⟩ := H0.out.call hN
    have H1 := hid h1
    clear hN h1 m1 H0
    clear hb
    obtain ⟨⟨x1, x2, x3⟩, hx, hr2⟩ := Option.bind_eq_some_iff.1 hr
    have HX := hid hx
    clear hr hx
    dsimp only at hr2
    have hr := hr2
    clear hr2
    have HR1 := hid hr
    clear hr
    have L := hid (LR.nil w.heap.size w1 a ok1)
    go_wp2_with fail
    refine (hG.e HX.out H1.out.p).mono ?_
    rintro e w2 ⟨rfl, hN⟩
    obtain ⟨ok2, v2, h2, m2⟩ := H1.out.call hN
    have H2 := hid h2
    replace L := hid (L.out.mv m2)
    clear hN h2 m2 H1
    go_wp2_with (at_builtin; refine LR.append_wp rfl _ _ rfl H2.out L.out (by simp) rfl rfl ?_; intro val3 w3 h3 l3; have H3 := hid h3; have Ln := hid l3; clear h3 l3 H2 L)
    have L := Ln
    clear Ln
    dsimp only [List.nil_append] at L
    clear hG HX
    go_wp2_with fail
    have L : Box (LR w.heap.size w3 a ok2 val3 [x1]) := L
    go_loopg [5] n (fun g x wx => ∃ okx vx Sx acc, g ≤ n ∧ Box (run g (.commL last acc) Sx = some (k, ks, S')) ∧ Box (At w a ok wx okx vx Sx) ∧ Box (LR w.heap.size wx a okx x acc))
    case atStart => exact ⟨_, _, _, _, Nat.le_refl _, HR1, H3, L⟩
    case round =>
      clear H3 HR1 L
      obtain ⟨okx, vx, Sx, acc, hgk, HR, H0, L⟩ := hrel
      have hr := HR.out
      clear HR
      cases gk with
      | zero => cases hr
      | succ gk =>
      have hG := HG.out gk (by omega)
      clear HG
      change commLF (run gk) last acc Sx = _ at hr
      unfold commLF at hr
      go_wp2_with fail
      rcases Bool.eq_false_or_eq_true ((Sx).hasB (⟨#[44]⟩ : ByteArray)) with hb | hb
      · skip
        rw [if_pos hb] at hr
        refine (has_hit H0.out.p (⟨#[44]⟩ : ByteArray) hb).mono ?_
        rintro e w1 ⟨rfl, hN⟩
        obtain ⟨ok1, v1, h1, m1⟩ := H0.out.call hN
        have H1 := hid h1
        replace L := hid (L.out.mv m1)
        clear hN h1 m1 H0
        clear hb
        obtain ⟨⟨x1, x2, x3⟩, hx, hr2⟩ := Option.bind_eq_some_iff.1 hr
        have HX := hid hx
        clear hr hx
        dsimp only at hr2
        have hr := hr2
        clear hr2
        split at hr
        rotate_left
        · cases hr
        rename_i hm
        have HRR := hid hr
        clear hr
        go_wp2_with fail
        refine (hG.e HX.out H1.out.p).mono ?_
        rintro e w2 ⟨rfl, hN⟩
        obtain ⟨ok2, v2, h2, m2⟩ := H1.out.call hN
        have H2 := hid h2
        replace L := hid (L.out.mv m2)
        clear hN h2 m2 H1
        go_wp2_with (at_builtin; refine LR.append_wp rfl _ _ rfl H2.out L.out (hm) rfl rfl ?_; intro val3 w3 h3 l3; have H3 := hid h3; have Ln := hid l3; clear h3 l3 H2 L)
        have L := Ln
        clear Ln
        clear hG
        go_wp2_with fail
        go_roundg gk
        case measure => omega
        case rel => exact ⟨_, _, _, _, by omega, HRR, H3, L⟩
      · skip
        rw [if_f hb] at hr
        refine (has_miss H0.out.p (⟨#[44]⟩ : ByteArray) hb).mono ?_
        rintro e w1 ⟨rfl, hN⟩
        obtain ⟨ok1, v1, h1, m1⟩ := H0.out.call hN
        have H1 := hid h1
        replace L := hid (L.out.mv m1)
        clear hN h1 m1 H0
        clear hb
        obtain ⟨rfl, rfl, rfl⟩ := some3 hr
        clear hr
        go_wp2_with fail
        refine (must_c H1.out.p _).mono ?_
        rintro e w2 ⟨rfl, hN⟩
        obtain ⟨ok2, v2, h2, m2⟩ := H1.out.call hN
        have H2 := hid h2
        replace L := hid (L.out.mv m2)
        clear hN h2 m2 H1
        go_wp2_with fail
        go_ret
        exact ⟨_, _, _, rfl, H2.out, L.out⟩
end
end Go.Proofs.Yticbjhicjegfoaa.Q
