/- PromiseAdopts, walked. -/
import Derived.Test.YtdgpblhmfkpblaaSt17
namespace Go.Proofs.Ytdgpblhmfkpblaa.Pg
open Go.RowKit

/-- A block that is none of the family's, and none of the state's. -/
structure Free (w : World) (D : FD) (G : SG) (b : Nat) : Prop where
  lt : b < w.heap.size
  nf : ¬ Foot D b
  ns : ¬ SFoot G b
section
variable {B B' : Bd} {w w' w1 : World} {G G' : SG} {P P' : PS} {D D' : FD} {b : Nat}
theorem Free.new (h : St1 B w D G P) (hb : w.heap.size ≤ b) (hl : b < w1.heap.size) : Free w1 D G b :=
  ⟨hl, fun hf => by have := (h.h.fam.foot_lt hf).1; omega, fun hf => by have := (h.ok.foot_lt hf).1; omega⟩
theorem Free.below (h : Free w D G b) (hb : Below w.heap.size w w') : Free w' D G b := ⟨Nat.lt_of_lt_of_le h.lt hb.size, h.nf, h.ns⟩
theorem Free.mv (h : Free w D G b) (hM : SMv B w D G B' w' D' G') : Free w' D' G' b :=
  ⟨Nat.lt_of_lt_of_le h.lt hM.fr.size, fun hf => (hM.foot b hf).elim h.nf (by have := h.lt; omega), fun hf => (hM.sfoot b hf).elim h.ns (by have := h.lt; omega)⟩
theorem Free.at_ (h : Free w D G b) (hM : SMv B w D G B' w' D' G') {o : Obj} (ho : w.heap[b]? = some o) : w'.heap[b]? = some o := (hM.keep b h.lt h.nf h.ns).trans ho
/-- A settled promise, loaded. -/
theorem load_prom (h : St1 B w D G P) {k : Int} (h1 : 1 ≤ k) (h2 : k ≤ 1000000) {a : Int} {v : VD} (hk : P.cells[(k - 1).toNat]? = some ⟨5, a, 0, [], [v]⟩) :
    Calls Try.prog 32 #[ptr G.hp, .int .i64 k] w fun e w' => ∃ A n cap bv o cap', e = .returned (.tuple #[.agg #[.int .i64 5, .int .i64 a, .int .i64 0, .slice A n cap, .slice (some ⟨bv, o, none⟩) 1 cap'], .int .i64 0]) ∧ Below w.heap.size w w' ∧ bv < w'.heap.size ∧
      w'.cell? ⟨bv, o, none⟩ = some (.int .i64 v.kind) ∧ w'.cell? ⟨bv, o + 1, none⟩ = some (.int .i64 v.n) ∧ w'.cell? ⟨bv, o + 2, none⟩ = some (.string v.s) := by
  refine (h.h.load h.le h.hp h.cells h1 h2 hk).mono ?_
  rintro e w' ⟨A1, n1, p1, A2, n2, p2, rfl, hb, hr⟩
  obtain ⟨hn2, _, hget⟩ := hr.v.get
  obtain ⟨bv, o, rfl, _, hcv⟩ := hget 0 v.row rfl
  have hn2' : n2 = 1 := hn2.symm
  subst hn2'
  have x0 := hcv 0 _ rfl
  have x1 := hcv 1 _ rfl
  have x2 := hcv 2 _ rfl
  simp only [Nat.zero_mul, Nat.add_zero] at x0 x1 x2
  exact ⟨_, _, _, _, _, _, rfl, hb, block_lt_of_cell x0, x0, x1, x2⟩
/-- A promise that waits alone, loaded. -/
theorem load_prom0 (h : St1 B w D G P) {k : Int} (h1 : 1 ≤ k) (h2 : k ≤ 1000000) (hk : P.cells[(k - 1).toNat]? = some promC) :
    Calls Try.prog 32 #[ptr G.hp, .int .i64 k] w fun e w' => ∃ A n cap A' cap', e = .returned (.tuple #[.agg #[.int .i64 5, .int .i64 0, .int .i64 0, .slice A n cap, .slice A' 0 cap'], .int .i64 0]) ∧ Below w.heap.size w w' := by
  refine (h.h.load h.le h.hp h.cells h1 h2 hk).mono ?_
  rintro e w' ⟨A1, n1, p1, A2, n2, p2, rfl, hb, hr⟩
  have hn2 : n2 = 0 := by have := hr.v.get.1; simpa [promC] using this.symm
  subst hn2
  exact ⟨_, _, _, _, _, rfl, hb⟩
end
def p2 : PS := { p0 with cells := p0.cells ++ [promC] ++ [promC] }
set_option maxHeartbeats 3200000 in
set_option maxRecDepth 100000 in
theorem adopts_c (w : World) (kept own : Bool) : Calls Try.prog 9 #[.bool kept, .bool own] w fun e w' => e = .returned (.bool true) ∧ Below w.heap.size w w' := by
  go_enter Try.func9, Try.ntmps9
  go_wp2_with fail
  refine (l17state_c w).mono ?_
  rintro e w1 ⟨a, rfl, B1, D1, G1, hS1, rfl, hn1, hb1⟩
  have HS1 := hid hS1
  have HB1 := hid hb1
  have HN1 := hid hn1
  clear hS1 hb1 hn1
  go_wp2_with fail
  refine (makeN_c HS1.out (by decide) (n := 2) rfl).mono ?_
  rintro e w2 ⟨rfl, B2, D2, G2, hS2, hM2⟩
  have ha2 := hM2.at_
  have HB2 := hid (HB1.out.trans (hM2.low HS1.out (Nat.le_of_eq HN1.out.symm)))
  have HN2 := hid (hM2.ext.hn.trans HN1.out)
  have HS2 := hid hS2
  clear hS2 hM2 HS1 HB1 HN1
  rw [← ha2]
  clear ha2
  go_wp2_with fail
  refine (makeN_c HS2.out (by decide) (n := 3) rfl).mono ?_
  rintro e w3 ⟨rfl, B3, D3, G3, hS3, hM3⟩
  have ha3 := hM3.at_
  have HB3 := hid (HB2.out.trans (hM3.low HS2.out (Nat.le_of_eq HN2.out.symm)))
  have HN3 := hid (hM3.ext.hn.trans HN2.out)
  have HS3 := hid (show St1 B3 w3 D3 G3 p2 from hS3)
  clear hS3 hM3 HS2 HB2 HN2
  rw [← ha3]
  clear ha3
  cases own
  rotate_left
  · go_wp2_with (first | (go_at_call 14; refine (err_c 0 _).mono ?_; rintro e w4 ⟨rfl, rfl⟩) | (go_at_call 19; refine (rrefL_c 2).mono ?_; rintro e w4 ⟨rfl, hb4⟩; have HS4 := hid (HS3.out.below hb4); have HB4 := hid (HB3.out.trans (hb4.mono HB3.out.size)); clear hb4))
    refine (settle_set HS4.out (p := 2) (by decide) (by decide) 1 rfl (c := promC) rfl rfl rfl (by decide) (by decide) true (refV 2) (fun _ => .inr rfl)).mono ?_
    rintro e w5 ⟨rfl, B5, D5, G5, hS5, hM5⟩
    have ha5 := hM5.at_
    have HB5 := hid (HB4.out.trans (hM5.low HS4.out (Nat.le_of_eq HN3.out.symm)))
    have HS5 := hid hS5
    have c0 := hS5.ok.c (k := 0) (u := ptr G5.hp) rfl
    unfold ptr at c0
    clear hS5 hM5 HS4 HB4 HN3 HS3 HB3
    rw [← ha5]
    clear ha5
    go_wp2_with fail
    refine (load_prom HS5.out (k := 2) (by decide) (by decide) (a := 1) (v := ⟨5, 2, ByteArray.empty⟩) rfl).mono ?_
    rintro e w7 ⟨A1, n1, p1, bv, ov', p2', rfl, hb7, hbv, x0, x1, x2⟩
    dsimp only at x0 x1 x2
    go_upto_region 11 with fail
    have hb8 := (Below.refl w7.heap.size w7).alloc (Nat.le_refl _) (.cells #[.int .i64 5, .int .i64 1, .int .i64 0, .slice A1 n1 p1, .slice (some ⟨bv, ov', none⟩) 1 p2'] 47)
    have r8 := heap_alloc_new w7 (.cells #[.int .i64 5, .int .i64 1, .int .i64 0, .slice A1 n1 p1, .slice (some ⟨bv, ov', none⟩) 1 p2'] 47)
    have X0 := carry hb8 hbv x0
    have X1 := carry hb8 hbv x1
    have X2 := carry hb8 hbv x2
    have HS8 := hid ((HS5.out.below hb7).below hb8)
    have HBX := hid (HB5.out.trans ((hb7.trans (hb8.mono hb7.size)).mono HB5.out.size))
    generalize (w7.alloc (.cells #[.int .i64 5, .int .i64 1, .int .i64 0, .slice A1 n1 p1, .slice (some ⟨bv, ov', none⟩) 1 p2'] 47)) = W8 at HS8 HBX r8 X0 X1 X2 ⊢
    obtain ⟨Aj, pj, ej⟩ := HS8.out.ok.jobs.slice
    have c7 := HS8.out.ok.c (k := 7) (u := .slice Aj 0 pj) (by show some G5.jsl = _; rw [ej]; rfl)
    have dj := ov_cell (HS8.out.ok.foot_lt (.inl rfl)).1 c7
    have d1 := ov_row r8 1 (v := .int .i64 1) rfl
    have d4 := ov_row r8 4 (v := .slice (some ⟨bv, ov', none⟩) 1 p2') rfl
    have e0 := ov_cell (block_lt_of_cell X0) X0
    have e1 := ov_cell (block_lt_of_cell X0) X1
    have e2 := ov_cell (block_lt_of_cell X0) X2
    clear hb7 hbv x0 x1 x2 hb8 r8 X0 X1 X2 c0 c7 ej
    refine wp_region_over_lit (by kernel_rfl) (by kernel_rfl) ?_
    repeat (first
      | go_big_quiet_step ((first | (go_at_call 14; exact calls_over_same (err_c _ _)) | (go_at_call 19; exact calls_over (rrefL_c 2)) | (go_at_call 33; exact calls_over (awake18_c _)))))
    refine wpQuiet_nil ?_
    intro W' hW'
    obtain ⟨x, rfl⟩ := hW'
    go_wp2
    go_ret
    exact ⟨rfl, HBX.out.trans ((ov_below x).mono HBX.out.size)⟩
  cases kept
  · go_wp2_with (first | (go_at_call 14; refine (err_c 0 _).mono ?_; rintro e w4 ⟨rfl, rfl⟩) | (go_at_call 19; refine (rrefL_c 3).mono ?_; rintro e w4 ⟨rfl, hb4⟩; have HS4 := hid (HS3.out.below hb4); have HB4 := hid (HB3.out.trans (hb4.mono HB3.out.size)); clear hb4))
    refine (settle_adopt HS4.out (p := 2) (by decide) (by decide) (c := promC) rfl rfl (refV 3) rfl (by decide) (by decide) (by decide) (d := promC) rfl rfl (Q := fun P' => P' = { p2 with cells := p2.cells.set 2 (waitC promC (VD.mk 6 2 ⟨#[114, 101, 115, 111, 108, 118, 101]⟩) (VD.mk 6 2 ⟨#[114, 101, 106, 101, 99, 116]⟩) 0) })
      (fun w1 h1 => (wait_waits h1 (p := 3) (by decide) (by decide) (c := promC) rfl rfl (by decide) rfl _ _ 0).mono (fun e w' ⟨he, hN⟩ => ⟨he, _, rfl, hN⟩))).mono ?_
    rintro e w5 ⟨rfl, P5, rfl, B5, D5, G5, hS5, hM5⟩
    have ha5 := hM5.at_
    have HB5 := hid (HB4.out.trans (hM5.low HS4.out (Nat.le_of_eq HN3.out.symm)))
    have HN5 := hid (hM5.ext.hn.trans HN3.out)
    have HS5 := hid hS5
    have c0 := hS5.ok.c (k := 0) (u := ptr G5.hp) rfl
    unfold ptr at c0
    clear hS5 hM5 HS4 HB4 HN3 HS3 HB3
    rw [← ha5]
    clear ha5
    go_wp2_with fail
    refine (load_prom0 HS5.out (k := 2) (by decide) (by decide) rfl).mono ?_
    rintro e w7 ⟨A1, n1, p1, A2, q2, rfl, hb7⟩
    go_upto_region 14 with fail
    have hb8 := (Below.refl w7.heap.size w7).alloc (Nat.le_refl _) (.cells #[.int .i64 5, .int .i64 0, .int .i64 0, .slice A1 n1 p1, .slice A2 0 q2] 47)
    have r8 := heap_alloc_new w7 (.cells #[.int .i64 5, .int .i64 0, .int .i64 0, .slice A1 n1 p1, .slice A2 0 q2] 47)
    have fr8 := Free.new (w1 := (w7.alloc (.cells #[.int .i64 5, .int .i64 0, .int .i64 0, .slice A1 n1 p1, .slice A2 0 q2] 47))) HS5.out hb7.size (by go_size)
    have HS8 := hid ((HS5.out.below hb7).below hb8)
    have HB8 := hid (HB5.out.trans ((hb7.trans (hb8.mono hb7.size)).mono HB5.out.size))
    generalize (w7.alloc (.cells #[.int .i64 5, .int .i64 0, .int .i64 0, .slice A1 n1 p1, .slice A2 0 q2] 47)) = W8 at HS8 HB8 r8 fr8 ⊢
    generalize w7.heap.size = b8 at r8 fr8 ⊢
    have R8 := hid r8
    have F8 := hid fr8
    clear hb7 hb8 r8 fr8 c0 HS5 HB5
    go_wp2_with (go_at_call 15; refine (rnumL_c 3).mono ?_; rintro e w9 ⟨rfl, hb9⟩; have HS9 := hid (HS8.out.below hb9); have HB9 := hid (HB8.out.trans (hb9.mono HB8.out.size)); have F9 := hid (F8.out.below hb9); have R9 := hid ((hb9.block _ F8.out.lt).trans R8.out); clear hb9)
    refine (settle_set HS9.out (p := 3) (by decide) (by decide) 2 rfl (c := waitC promC (VD.mk 6 2 ⟨#[114, 101, 115, 111, 108, 118, 101]⟩) (VD.mk 6 2 ⟨#[114, 101, 106, 101, 99, 116]⟩) 0) rfl rfl rfl (by decide) (by decide) false (numV 3) (fun _ => .inl (by decide))).mono ?_
    rintro e w10 ⟨rfl, B10, D10, G10, hS10, hM10⟩
    have ha10 := hM10.at_
    have HB10 := hid (HB9.out.trans (hM10.low HS9.out (Nat.le_of_eq HN5.out.symm)))
    have R10 := hid (F9.out.at_ hM10 R9.out)
    have F10 := hid (F9.out.mv hM10)
    have HS10 := hid hS10
    have c0 := hS10.ok.c (k := 0) (u := ptr G10.hp) rfl
    unfold ptr at c0
    clear hS10 hM10 HS9 HB9 HN5 R9 F9 R8 F8 HS8 HB8
    rw [← ha10]
    clear ha10
    go_wp2_with fail
    refine (load_prom0 HS10.out (k := 2) (by decide) (by decide) rfl).mono ?_
    rintro e w11 ⟨A3, n3, p3, A4, q4, rfl, hb11⟩
    go_upto_region 16 with fail
    have hb12 := (Below.refl w11.heap.size w11).alloc (Nat.le_refl _) (.cells #[.int .i64 5, .int .i64 0, .int .i64 0, .slice A3 n3 p3, .slice A4 0 q4] 47)
    have r12 := heap_alloc_new w11 (.cells #[.int .i64 5, .int .i64 0, .int .i64 0, .slice A3 n3 p3, .slice A4 0 q4] 47)
    have HS12 := hid ((HS10.out.below hb11).below hb12)
    have r8 := ((hb11.trans (hb12.mono hb11.size)).block _ F10.out.lt).trans R10.out
    have HB12 := hid (HB10.out.trans ((hb11.trans (hb12.mono hb11.size)).mono HB10.out.size))
    generalize (w11.alloc (.cells #[.int .i64 5, .int .i64 0, .int .i64 0, .slice A3 n3 p3, .slice A4 0 q4] 47)) = W12 at HS12 HB12 r8 r12 ⊢
    generalize w11.heap.size = b12 at r12 ⊢
    have R8 := hid r8
    have R12 := hid r12
    clear hb11 hb12 r8 r12 c0 HS10 HB10 F10 R10
    go_wp2_with (go_at_call 15; refine (rnumL_c 1).mono ?_; rintro e w13 ⟨rfl, hb13⟩; have HS13 := hid (HS12.out.below hb13); have HB13 := hid (HB12.out.trans (hb13.mono HB12.out.size)); have R13 := hid ((hb13.block _ (Array.getElem?_eq_some_iff.1 R8.out).1).trans R8.out); have T13 := hid ((hb13.block _ (Array.getElem?_eq_some_iff.1 R12.out).1).trans R12.out); clear hb13)
    refine (settle_nil w13 2 true (numV 1)).mono ?_
    rintro e w14 ⟨rfl, hb14⟩
    have HS14 := hid (HS13.out.below hb14)
    have HB14 := hid (HB13.out.trans (hb14.mono HB13.out.size))
    have R14 := hid ((hb14.block _ (Array.getElem?_eq_some_iff.1 R13.out).1).trans R13.out)
    have T14 := hid ((hb14.block _ (Array.getElem?_eq_some_iff.1 T13.out).1).trans T13.out)
    clear hb14 HS13 HB13 R13 T13 HS12 HB12 R8 R12
    go_wp2_with fail
    refine (make_nil w14).mono ?_
    rintro e w15 ⟨rfl, rfl⟩
    go_upto_region 21 with fail
    obtain ⟨gj, pj, ej, _, _, _⟩ := HS14.out.ok.jobs.some (by decide)
    have c7 := HS14.out.ok.c (k := 7) (u := .slice (some ⟨gj, 0, none⟩) 1 pj) (by show some G10.jsl = _; rw [ej]; rfl)
    have hj := HS14.out.ok.jobs.here
    rw [ej] at hj
    obtain ⟨bj, oj, ebj, _, hcj⟩ := hj.get.2.2 0 (JobD.row ⟨⟨6, 2, ⟨#[114, 101, 106, 101, 99, 116]⟩⟩, ⟨3, 3, ByteArray.empty⟩, 0, false⟩) rfl
    injection ebj with ebj
    injection ebj with eb eo
    subst eb eo
    have dj := ov_cell (HS14.out.ok.foot_lt (.inl rfl)).1 c7
    have lj := block_lt_of_cell (hcj 0 _ rfl)
    simp only [Nat.zero_mul, Nat.zero_add] at hcj
    have j0 := ov_cell lj (hcj 0 _ rfl)
    have j1 := ov_cell lj (hcj 1 _ rfl)
    have j2 := ov_cell lj (hcj 2 _ rfl)
    have j3 := ov_cell lj (hcj 3 _ rfl)
    have j4 := ov_cell lj (hcj 4 _ rfl)
    have j5 := ov_cell lj (hcj 5 _ rfl)
    have j6 := ov_cell lj (hcj 6 _ rfl)
    have j7 := ov_cell lj (hcj 7 _ rfl)
    dsimp only at j0 j1 j2 j3 j4 j5 j6 j7
    have d1 := ov_row R14.out 1 (v := .int .i64 0) rfl
    have d4 := ov_row R14.out 4 (v := .slice A2 0 q2) rfl
    have k1 := ov_row T14.out 1 (v := .int .i64 0) rfl
    have k4 := ov_row T14.out 4 (v := .slice A4 0 q4) rfl
    clear c7 ej hj hcj lj
    refine wp_region_over_lit (by kernel_rfl) (by kernel_rfl) ?_
    repeat (first
      | go_big_quiet_step ((first | (go_at_call 14; exact calls_over_same (err_c _ _)) | (go_at_call 15; exact calls_over (rnumL_c 3)) | (go_at_call 34; exact calls_over (rownL_c _ ⟨#[114, 101, 106, 101, 99, 116]⟩ 2)) | (go_at_call 33; exact calls_over (awake18_c _)))))
    refine wpQuiet_nil ?_
    intro W' hW'
    obtain ⟨x, rfl⟩ := hW'
    go_wp2
    go_ret
    exact ⟨rfl, HB14.out.trans ((ov_below x).mono HB14.out.size)⟩
  · go_wp2_with (first | (go_at_call 14; refine (err_c 0 _).mono ?_; rintro e w4 ⟨rfl, rfl⟩) | (go_at_call 19; refine (rrefL_c 3).mono ?_; rintro e w4 ⟨rfl, hb4⟩; have HS4 := hid (HS3.out.below hb4); have HB4 := hid (HB3.out.trans (hb4.mono HB3.out.size)); clear hb4))
    refine (settle_adopt HS4.out (p := 2) (by decide) (by decide) (c := promC) rfl rfl (refV 3) rfl (by decide) (by decide) (by decide) (d := promC) rfl rfl (Q := fun P' => P' = { p2 with cells := p2.cells.set 2 (waitC promC (VD.mk 6 2 ⟨#[114, 101, 115, 111, 108, 118, 101]⟩) (VD.mk 6 2 ⟨#[114, 101, 106, 101, 99, 116]⟩) 0) })
      (fun w1 h1 => (wait_waits h1 (p := 3) (by decide) (by decide) (c := promC) rfl rfl (by decide) rfl _ _ 0).mono (fun e w' ⟨he, hN⟩ => ⟨he, _, rfl, hN⟩))).mono ?_
    rintro e w5 ⟨rfl, P5, rfl, B5, D5, G5, hS5, hM5⟩
    have ha5 := hM5.at_
    have HB5 := hid (HB4.out.trans (hM5.low HS4.out (Nat.le_of_eq HN3.out.symm)))
    have HN5 := hid (hM5.ext.hn.trans HN3.out)
    have HS5 := hid hS5
    have c0 := hS5.ok.c (k := 0) (u := ptr G5.hp) rfl
    unfold ptr at c0
    clear hS5 hM5 HS4 HB4 HN3 HS3 HB3
    rw [← ha5]
    clear ha5
    go_wp2_with fail
    refine (load_prom0 HS5.out (k := 2) (by decide) (by decide) rfl).mono ?_
    rintro e w7 ⟨A1, n1, p1, A2, q2, rfl, hb7⟩
    go_upto_region 14 with fail
    have hb8 := (Below.refl w7.heap.size w7).alloc (Nat.le_refl _) (.cells #[.int .i64 5, .int .i64 0, .int .i64 0, .slice A1 n1 p1, .slice A2 0 q2] 47)
    have r8 := heap_alloc_new w7 (.cells #[.int .i64 5, .int .i64 0, .int .i64 0, .slice A1 n1 p1, .slice A2 0 q2] 47)
    have fr8 := Free.new (w1 := (w7.alloc (.cells #[.int .i64 5, .int .i64 0, .int .i64 0, .slice A1 n1 p1, .slice A2 0 q2] 47))) HS5.out hb7.size (by go_size)
    have HS8 := hid ((HS5.out.below hb7).below hb8)
    have HB8 := hid (HB5.out.trans ((hb7.trans (hb8.mono hb7.size)).mono HB5.out.size))
    generalize (w7.alloc (.cells #[.int .i64 5, .int .i64 0, .int .i64 0, .slice A1 n1 p1, .slice A2 0 q2] 47)) = W8 at HS8 HB8 r8 fr8 ⊢
    generalize w7.heap.size = b8 at r8 fr8 ⊢
    have R8 := hid r8
    have F8 := hid fr8
    clear hb7 hb8 r8 fr8 c0 HS5 HB5
    go_wp2_with (go_at_call 15; refine (rnumL_c 3).mono ?_; rintro e w9 ⟨rfl, hb9⟩; have HS9 := hid (HS8.out.below hb9); have HB9 := hid (HB8.out.trans (hb9.mono HB8.out.size)); have F9 := hid (F8.out.below hb9); have R9 := hid ((hb9.block _ F8.out.lt).trans R8.out); clear hb9)
    refine (settle_set HS9.out (p := 3) (by decide) (by decide) 2 rfl (c := waitC promC (VD.mk 6 2 ⟨#[114, 101, 115, 111, 108, 118, 101]⟩) (VD.mk 6 2 ⟨#[114, 101, 106, 101, 99, 116]⟩) 0) rfl rfl rfl (by decide) (by decide) true (numV 3) (fun _ => .inl (by decide))).mono ?_
    rintro e w10 ⟨rfl, B10, D10, G10, hS10, hM10⟩
    have ha10 := hM10.at_
    have HB10 := hid (HB9.out.trans (hM10.low HS9.out (Nat.le_of_eq HN5.out.symm)))
    have R10 := hid (F9.out.at_ hM10 R9.out)
    have F10 := hid (F9.out.mv hM10)
    have HS10 := hid hS10
    have c0 := hS10.ok.c (k := 0) (u := ptr G10.hp) rfl
    unfold ptr at c0
    clear hS10 hM10 HS9 HB9 HN5 R9 F9 R8 F8 HS8 HB8
    rw [← ha10]
    clear ha10
    go_wp2_with fail
    refine (load_prom0 HS10.out (k := 2) (by decide) (by decide) rfl).mono ?_
    rintro e w11 ⟨A3, n3, p3, A4, q4, rfl, hb11⟩
    go_upto_region 16 with fail
    have hb12 := (Below.refl w11.heap.size w11).alloc (Nat.le_refl _) (.cells #[.int .i64 5, .int .i64 0, .int .i64 0, .slice A3 n3 p3, .slice A4 0 q4] 47)
    have r12 := heap_alloc_new w11 (.cells #[.int .i64 5, .int .i64 0, .int .i64 0, .slice A3 n3 p3, .slice A4 0 q4] 47)
    have HS12 := hid ((HS10.out.below hb11).below hb12)
    have r8 := ((hb11.trans (hb12.mono hb11.size)).block _ F10.out.lt).trans R10.out
    have HB12 := hid (HB10.out.trans ((hb11.trans (hb12.mono hb11.size)).mono HB10.out.size))
    generalize (w11.alloc (.cells #[.int .i64 5, .int .i64 0, .int .i64 0, .slice A3 n3 p3, .slice A4 0 q4] 47)) = W12 at HS12 HB12 r8 r12 ⊢
    generalize w11.heap.size = b12 at r12 ⊢
    have R8 := hid r8
    have R12 := hid r12
    clear hb11 hb12 r8 r12 c0 HS10 HB10 F10 R10
    go_wp2_with (go_at_call 15; refine (rnumL_c 1).mono ?_; rintro e w13 ⟨rfl, hb13⟩; have HS13 := hid (HS12.out.below hb13); have HB13 := hid (HB12.out.trans (hb13.mono HB12.out.size)); have R13 := hid ((hb13.block _ (Array.getElem?_eq_some_iff.1 R8.out).1).trans R8.out); have T13 := hid ((hb13.block _ (Array.getElem?_eq_some_iff.1 R12.out).1).trans R12.out); clear hb13)
    refine (settle_nil w13 2 true (numV 1)).mono ?_
    rintro e w14 ⟨rfl, hb14⟩
    have HS14 := hid (HS13.out.below hb14)
    have HB14 := hid (HB13.out.trans (hb14.mono HB13.out.size))
    have R14 := hid ((hb14.block _ (Array.getElem?_eq_some_iff.1 R13.out).1).trans R13.out)
    have T14 := hid ((hb14.block _ (Array.getElem?_eq_some_iff.1 T13.out).1).trans T13.out)
    clear hb14 HS13 HB13 R13 T13 HS12 HB12 R8 R12
    go_wp2_with fail
    refine (make_nil w14).mono ?_
    rintro e w15 ⟨rfl, rfl⟩
    go_upto_region 21 with fail
    obtain ⟨gj, pj, ej, _, _, _⟩ := HS14.out.ok.jobs.some (by decide)
    have c7 := HS14.out.ok.c (k := 7) (u := .slice (some ⟨gj, 0, none⟩) 1 pj) (by show some G10.jsl = _; rw [ej]; rfl)
    have hj := HS14.out.ok.jobs.here
    rw [ej] at hj
    obtain ⟨bj, oj, ebj, _, hcj⟩ := hj.get.2.2 0 (JobD.row ⟨⟨6, 2, ⟨#[114, 101, 115, 111, 108, 118, 101]⟩⟩, ⟨3, 3, ByteArray.empty⟩, 0, true⟩) rfl
    injection ebj with ebj
    injection ebj with eb eo
    subst eb eo
    have dj := ov_cell (HS14.out.ok.foot_lt (.inl rfl)).1 c7
    have lj := block_lt_of_cell (hcj 0 _ rfl)
    simp only [Nat.zero_mul, Nat.zero_add] at hcj
    have j0 := ov_cell lj (hcj 0 _ rfl)
    have j1 := ov_cell lj (hcj 1 _ rfl)
    have j2 := ov_cell lj (hcj 2 _ rfl)
    have j3 := ov_cell lj (hcj 3 _ rfl)
    have j4 := ov_cell lj (hcj 4 _ rfl)
    have j5 := ov_cell lj (hcj 5 _ rfl)
    have j6 := ov_cell lj (hcj 6 _ rfl)
    have j7 := ov_cell lj (hcj 7 _ rfl)
    dsimp only at j0 j1 j2 j3 j4 j5 j6 j7
    have d1 := ov_row R14.out 1 (v := .int .i64 0) rfl
    have d4 := ov_row R14.out 4 (v := .slice A2 0 q2) rfl
    have k1 := ov_row T14.out 1 (v := .int .i64 0) rfl
    have k4 := ov_row T14.out 4 (v := .slice A4 0 q4) rfl
    clear c7 ej hj hcj lj
    refine wp_region_over_lit (by kernel_rfl) (by kernel_rfl) ?_
    repeat (first
      | go_big_quiet_step ((first | (go_at_call 14; exact calls_over_same (err_c _ _)) | (go_at_call 15; exact calls_over (rnumL_c 3)) | (go_at_call 34; exact calls_over (rownL_c _ ⟨#[114, 101, 115, 111, 108, 118, 101]⟩ 2)) | (go_at_call 33; exact calls_over (awake18_c _)))))
    refine wpQuiet_nil ?_
    intro W' hW'
    obtain ⟨x, rfl⟩ := hW'
    go_wp2
    go_ret
    exact ⟨rfl, HB14.out.trans ((ov_below x).mono HB14.out.size)⟩
end Go.Proofs.Ytdgpblhmfkpblaa.Pg
