/- The document's example of package promise. -/
import Derived.Test.YtdgpblhmfkpblaaSt16
import Derived.Test.YtdgpblhmfkpblaaOv
namespace Go.Proofs.Ytdgpblhmfkpblaa.Pg
open Go.RowKit

section
variable {B B' : Bd} {w w' : World} {G G' : SG} {P P' : PS} {D D' : FD}
theorem makeN_c (h : St1 B w D G P) (hn : P.cells.length < 4096) {n : Int} (he : (P.cells.length : Nat) + (1 : Int) = n) : Calls Try.prog 30 #[ptr G.at_] w fun e w' => e = .returned (.tuple #[.int .i64 n, .int .i64 0]) ∧ Next1 B w D G w' { P with cells := P.cells ++ [promC] } := he ▸ make_c h hn
theorem rnumL_c (n : Int) : Calls Try.prog 15 #[.int .i64 n] w fun e w' => e = .returned (.agg #[.int .i64 3, .int .i64 n, .string ByteArray.empty]) ∧ Below w.heap.size w w' := rnum_c n
theorem rrefL_c (n : Int) : Calls Try.prog 19 #[.int .i64 n] w fun e w' => e = .returned (.agg #[.int .i64 5, .int .i64 n, .string ByteArray.empty]) ∧ Below w.heap.size w w' := rref_c n
theorem rownL_c (w : World) (s : ByteArray) (n : Int) : Calls Try.prog 34 #[.string s, .int .i64 n] w fun e w' => e = .returned (.agg #[.int .i64 6, .int .i64 n, .string s]) ∧ Below w.heap.size w w' := rown_c w s n
/-- What a call leaves lies behind what was there before the state was. -/
theorem Next1.low (h : Next1 B w D G w' P') (hS : St1 B w D G P) {n : Nat} (hn : n ≤ B) : Below n w w' := by
  obtain ⟨B', D', G', _, hM⟩ := h
  exact hM.low hS hn
end
set_option maxHeartbeats 3200000 in
set_option maxRecDepth 100000 in
theorem awake18_c (w : World) : Calls Try.prog 33 #[] w fun e w' => e = .returned (.bool true) ∧ Below w.heap.size w w' := by
  go_enter Try.func33, Try.ntmps33
  go_wp2_with fail
  refine (l17state_c w).mono ?_
  rintro e w1 ⟨a, rfl, B1, D1, G1, hS1, rfl, hn1, hb1⟩
  have HS1 := hid hS1
  have HB1 := hid hb1
  have HN1 := hid hn1
  clear hS1 hb1 hn1
  go_wp2_with fail
  refine (makeN_c HS1.out (by decide) (n := 2) rfl).mono ?_
  rintro e w2 ⟨rfl, B2, D2, G2, hS2, hM2⟩
  have ha2 := hM2.at_
  have HB2 := hid (HB1.out.trans (hM2.low HS1.out (Nat.le_of_eq HN1.out.symm)))
  have HN2 := hid (hM2.ext.hn.trans HN1.out)
  have HS2 := hid hS2
  clear hS2 hM2 HS1 HB1 HN1
  rw [← ha2]
  clear ha2
  go_wp2_with (go_at_call 15; refine (rnum_c 1).mono ?_; rintro e w3 ⟨rfl, hb3⟩; unfold VD.agg numV; have HS3 := hid (HS2.out.below hb3); have HB3 := hid (HB2.out.trans (hb3.mono HB2.out.size)); clear hb3)
  refine (settle_set HS3.out (p := 2) (by decide) (by decide) 1 rfl (c := promC) rfl rfl rfl (by decide) (by decide) true (numV 1) (fun _ => .inl (by decide))).mono ?_
  rintro e w4 ⟨rfl, B4, D4, G4, hS4, hM4⟩
  have ha4 := hM4.at_
  have HB4 := hid (HB3.out.trans (hM4.low HS3.out (Nat.le_of_eq HN2.out.symm)))
  have HN4 := hid (hM4.ext.hn.trans HN2.out)
  have HS4 := hid hS4
  clear hS4 hM4 HS3 HB3 HN2 HS2 HB2
  rw [← ha4]
  clear ha4
  go_wp2_with (go_at_call 15; refine (rnum_c 2).mono ?_; rintro e w5 ⟨rfl, hb5⟩; unfold VD.agg numV; have HS5 := hid (HS4.out.below hb5); have HB5 := hid (HB4.out.trans (hb5.mono HB4.out.size)); clear hb5)
  refine (settle_gone HS5.out (p := 2) (by decide) (by decide) (c := settled true promC (numV 1)) rfl (by decide) true (numV 2)).mono ?_
  rintro e w6 ⟨rfl, B6, D6, G6, hS6, hM6⟩
  have ha6 := hM6.at_
  have HB6 := hid (HB5.out.trans (hM6.low HS5.out (Nat.le_of_eq HN4.out.symm)))
  have HS6 := hid hS6
  have c0 := hS6.ok.c (k := 0) (u := ptr G6.hp) rfl
  unfold ptr at c0
  clear hS6 hM6 HS5 HB5 HN4 HS4 HB4
  rw [← ha6]
  clear ha6
  go_wp2_with fail
  have hL := HS6.out.h.load HS6.out.le HS6.out.hp HS6.out.cells (k := 2) (by decide) (by decide) (c := ⟨5, 1, 0, [], [⟨3, 1, ByteArray.empty⟩]⟩) rfl
  dsimp only at hL
  refine hL.mono ?_
  rintro e w7 ⟨A1, n1, p1, A2, n2, p2, rfl, hb7, hr7⟩
  obtain ⟨hn2, _, hget⟩ := hr7.v.get
  obtain ⟨bv, ov', rfl, _, hcv⟩ := hget 0 (VD.row ⟨3, 1, ByteArray.empty⟩) rfl
  have hn2' : n2 = 1 := hn2.symm
  subst hn2'
  have x0 := hcv 0 _ rfl
  have x1 := hcv 1 _ rfl
  have x2 := hcv 2 _ rfl
  simp only [Nat.zero_mul, Nat.add_zero] at x0 x1 x2
  go_upto_region 8 with fail
  have hb8 := (Below.refl w7.heap.size w7).alloc (Nat.le_refl _) (.cells #[.int .i64 5, .int .i64 1, .int .i64 0, .slice A1 n1 p1, .slice (some ⟨bv, ov', none⟩) 1 p2] 47)
  have r8 := heap_alloc_new w7 (.cells #[.int .i64 5, .int .i64 1, .int .i64 0, .slice A1 n1 p1, .slice (some ⟨bv, ov', none⟩) 1 p2] 47)
  have X0 := carry hb8 (block_lt_of_cell x0) x0
  have X1 := carry hb8 (block_lt_of_cell x0) x1
  have X2 := carry hb8 (block_lt_of_cell x0) x2
  have hb68 := HB6.out.trans ((hb7.trans (hb8.mono hb7.size)).mono HB6.out.size)
  have HBX := hid hb68
  generalize (w7.alloc (.cells #[.int .i64 5, .int .i64 1, .int .i64 0, .slice A1 n1 p1, .slice (some ⟨bv, ov', none⟩) 1 p2] 47)) = W8 at HBX r8 X0 X1 X2 ⊢
  have d1 := ov_row r8 1 (v := .int .i64 1) rfl
  have d4 := ov_row r8 4 (v := .slice (some ⟨bv, ov', none⟩) 1 p2) rfl
  have e0 := ov_cell (block_lt_of_cell X0) X0
  have e1 := ov_cell (block_lt_of_cell X0) X1
  have e2 := ov_cell (block_lt_of_cell X0) X2
  clear hb7 hr7 hget hcv x0 x1 x2 hL hb8 r8 X0 X1 X2 hb68 c0
  refine wp_region_over_lit (by kernel_rfl) (by kernel_rfl) ?_
  repeat (first
    | go_big_quiet_step ((first | (go_at_call 14; exact calls_over_same (err_c _ _)) | (go_at_call 15; exact calls_over (rnumL_c 1)))))
  refine wpQuiet_nil ?_
  intro W' hW'
  obtain ⟨x, rfl⟩ := hW'
  go_wp2
  go_ret
  exact ⟨rfl, HBX.out.trans ((ov_below x).mono HBX.out.size)⟩
end Go.Proofs.Ytdgpblhmfkpblaa.Pg
