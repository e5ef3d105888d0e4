/- StateNone, walked. -/
import Derived.Test.YtdgpblhmfkpblaaSt28
import Derived.Test.YtdgpblhmfkpblaaSt26
import Derived.Test.YtdgpblhmfkpblaaOvO
namespace Go.Proofs.Ytdgpblhmfkpblaa.Pg
open Go.RowKit

theorem cnil {w : World} : CRow B0 w none 0 [] := ⟨rfl, fun j c h => by simp at h⟩
theorem rnil {w : World} (sz : Nat) : RowR B0 w sz (.slice none 0 0) [] := ⟨none, 0, 0, rfl, rfl, Nat.le_refl _, by decide, fun _ => rfl, fun h => absurd h (by decide)⟩
theorem fnil {w : World} : FramesR B0 w [] [] := ⟨rfl, fun i F h => by simp at h⟩
def pN : PS := ⟨0, [scopeC 0 [holeV]], [⟨0, 0, 1, undefV, [], [], 0⟩], [], []⟩
set_option maxHeartbeats 6400000 in
set_option maxRecDepth 100000 in
theorem none_c (w : World) (n : Int) (hn0 : 0 ≤ n) : Calls Try.prog 7 #[.int .u8 n] w fun e w' => e = .returned (.bool true) ∧ Below w.heap.size w w' := by
  have y0 : n.tmod 9 = n % 9 := Int.tmod_eq_emod_of_nonneg hn0
  go_enter Try.func7, Try.ntmps7
  go_wp2_with fail
  refine (new_none w).mono ?_
  rintro e w1 ⟨rfl, hw1⟩
  subst w1
  have r1 := heap_alloc_new w (.cells #[.string ⟨#[]⟩, .int .i64 0, .int .i64 0, .bool true, .slice none 0 0] 28)
  have hb1 := (Below.refl w.heap.size w).alloc (Nat.le_refl _) (.cells #[.string ⟨#[]⟩, .int .i64 0, .int .i64 0, .bool true, .slice none 0 0] 28)
  have c3 := (cell_of_row _ _ 3 _ _ _ r1).trans (b := some (Value.bool true)) rfl
  go_wp2_with fail
  generalize (w.alloc (.cells #[.string ⟨#[]⟩, .int .i64 0, .int .i64 0, .bool true, .slice none 0 0] 28)) = W1 at r1 hb1 c3 ⊢
  refine (new_gen (n := 1) (by decide) (by simpa using c3)).mono ?_
  rintro e w1 ⟨rfl, hw1⟩
  subst w1
  have r2 := heap_alloc_new W1 (.cells #[.string ⟨#[]⟩, .int .i64 0, .int .i64 1, .bool false, .slice none 0 0] 28)
  have hb2 := hb1.trans (((Below.refl W1.heap.size W1).alloc (Nat.le_refl _) (.cells #[.string ⟨#[]⟩, .int .i64 0, .int .i64 1, .bool false, .slice none 0 0] 28)).mono hb1.size)
  clear r1 hb1 c3
  go_wp2_with fail
  generalize (W1.alloc (.cells #[.string ⟨#[]⟩, .int .i64 0, .int .i64 1, .bool false, .slice none 0 0] 28)) = W2 at r2 hb2 ⊢
  have hF : RowR (here w) W2 5 (.slice (some ⟨W1.heap.size, 0, none⟩) 1 1) ([insFun 1 (.slice none 0 0)].map FunD.row) :=
    RowR.of_own (rows := [FunD.row (insFun 1 (.slice none 0 0))]) (own_of_block (n := 1) (sz := 5) r2 rfl (by decide)) (by decide) (fun k hk => hk.elim) (by simp [FunD.row]) rfl
  refine (snew_c (B := here w) hb2.size (fun k hk => hk.elim) hF rfl rfl ⟨_, _, _, rfl⟩ (by simp [insFun]) (by simp [insFun])).mono ?_
  rintro e w3 ⟨a, rfl, B', D, G, hS, rfl, hfu, hE, hf, hb3⟩
  have HS := hid (show St1 B' w3 D G pN from hS)
  have HB := hid (hb2.trans (hb3.mono hb2.size))
  clear hS hE hf hb3 hb2 hF r2 hfu
  go_wp2_with (first | (go_at_call_of 14 (Value.int .i64 0); refine (err_c 0 _).mono ?_; rintro e w2 ⟨rfl, hw2⟩; subst w2) | (go_at_call 14; refine (err_c 1 _).mono ?_; rintro e w2 ⟨rfl, hw2⟩; subst w2))
  refine (all_c HS.out ⟨by decide, by decide, by decide, by decide, by simp [pN]⟩).mono ?_
  rintro e w4 ⟨v, rfl, hb4, hv⟩
  obtain ⟨Ac, pc, A1, p1, A2, p2, A3, p3, rows, rfl, hr⟩ := hv.form
  clear hv
  dsimp only [pN, List.length_cons, List.length_nil, Nat.zero_add]
  have r5 := heap_alloc_new w4 (.cells #[.int .i64 0, .int .i64 0, .int .i64 0, .slice Ac 1 pc, .slice A1 1 p1, .int .i64 0, .slice A2 0 p2, .slice none 0 0, .int .i64 0, .slice none 0 0, .slice none 0 0, .slice A3 0 p3] 44)
  have hb5 := (Below.refl w4.heap.size w4).alloc (Nat.le_refl _) (.cells #[.int .i64 0, .int .i64 0, .int .i64 0, .slice Ac 1 pc, .slice A1 1 p1, .int .i64 0, .slice A2 0 p2, .slice none 0 0, .int .i64 0, .slice none 0 0, .slice none 0 0, .slice A3 0 p3] 44)
  have l5 : w4.heap.size < (w4.alloc (.cells #[.int .i64 0, .int .i64 0, .int .i64 0, .slice Ac 1 pc, .slice A1 1 p1, .int .i64 0, .slice A2 0 p2, .slice none 0 0, .int .i64 0, .slice none 0 0, .slice none 0 0, .slice A3 0 p3] 44)).heap.size := by go_size
  have HV := hid (hr.below hb5)
  have HS5 := hid (HS.out.below (hb4.trans (hb5.mono hb4.size)))
  have HB5 := hid (HB.out.trans ((hb4.trans (hb5.mono hb4.size)).mono HB.out.size))
  go_upto_region 7 with fail
  clear hb4 hr hb5 HS HB
  generalize (w4.alloc (.cells #[.int .i64 0, .int .i64 0, .int .i64 0, .slice Ac 1 pc, .slice A1 1 p1, .int .i64 0, .slice A2 0 p2, .slice none 0 0, .int .i64 0, .slice none 0 0, .slice none 0 0, .slice A3 0 p3] 44)) = W5 at r5 HV HS5 HB5 l5 ⊢
  generalize w4.heap.size = b9 at r5 l5 ⊢
  have R9 := hid r5
  clear r5
  go_wp2_with fail
  refine (all_c HS5.out ⟨by decide, by decide, by decide, by decide, by simp [pN]⟩).mono ?_
  rintro e w6 ⟨v, rfl, hb6, hv'⟩
  obtain ⟨Bc, qc, E1, q1, E2, q2, E3, q3, rows', rfl, hr'⟩ := hv'.form
  clear hv'
  dsimp only [pN, List.length_cons, List.length_nil, Nat.zero_add]
  have r7 := heap_alloc_new w6 (.cells #[.int .i64 0, .int .i64 0, .int .i64 0, .slice Bc 1 qc, .slice E1 1 q1, .int .i64 0, .slice E2 0 q2, .slice none 0 0, .int .i64 0, .slice none 0 0, .slice none 0 0, .slice E3 0 q3] 44)
  have hb7 := (Below.refl w6.heap.size w6).alloc (Nat.le_refl _) (.cells #[.int .i64 0, .int .i64 0, .int .i64 0, .slice Bc 1 qc, .slice E1 1 q1, .int .i64 0, .slice E2 0 q2, .slice none 0 0, .int .i64 0, .slice none 0 0, .slice none 0 0, .slice E3 0 q3] 44)
  have l7 : w6.heap.size < (w6.alloc (.cells #[.int .i64 0, .int .i64 0, .int .i64 0, .slice Bc 1 qc, .slice E1 1 q1, .int .i64 0, .slice E2 0 q2, .slice none 0 0, .int .i64 0, .slice none 0 0, .slice none 0 0, .slice E3 0 q3] 44)).heap.size := by go_size
  have HV6 := hid (HV.out.below hb6)
  have HV6' := hid hr'
  have HB6 := hid (HB5.out.trans (hb6.mono HB5.out.size))
  have R9' := hid ((hb6.block _ l5).trans R9.out)
  have L9 := hid (Nat.lt_of_lt_of_le l5 hb6.size)
  have HB7 := hid hb7
  go_upto_block 0 with fail
  clear hr' hb6 hb7 HV HS5 HB5 R9 l5
  generalize (w6.alloc (.cells #[.int .i64 0, .int .i64 0, .int .i64 0, .slice Bc 1 qc, .slice E1 1 q1, .int .i64 0, .slice E2 0 q2, .slice none 0 0, .int .i64 0, .slice none 0 0, .slice none 0 0, .slice E3 0 q3] 44)) = W7 at r7 HB7 l7 ⊢
  obtain ⟨b10, hb10⟩ : ∃ b, b = w6.heap.size := ⟨_, rfl⟩
  rw [← hb10] at r7 l7 ⊢
  have HL := hid hb10
  have R10 := hid r7
  clear r7 hb10
  go_cut [] (fun wx => ∃ a0 a1 a2 a3 a4 a5 a6 a7 a8 a9 a10 a11, Box (Below w6.heap.size w6 wx) ∧ Box (wx.heap[b10]? = some (.cells #[a0, a1, a2, a3, a4, a5, a6, a7, a8, a9, a10, a11] 44 (0, 0))) ∧ Box (∀ w2, Below wx.heap.size wx w2 → Calls Try.prog 22 #[.agg #[.int .i64 0, .int .i64 0, .int .i64 0, .slice Ac 1 pc, .slice A1 1 p1, .int .i64 0, .slice A2 0 p2, .slice none 0 0, .int .i64 0, .slice none 0 0, .slice none 0 0, .slice A3 0 p3], .agg #[a0, a1, a2, a3, a4, a5, a6, a7, a8, a9, a10, a11]] w2 fun e w' => e = .returned (.bool false) ∧ Below w2.heap.size w2 w'))
  case first =>
    rcases (by omega : n % 9 = 0 ∨ n % 9 = 1 ∨ n % 9 = 2 ∨ n % 9 = 3 ∨ n % 9 = 4 ∨ n % 9 = 5 ∨ n % 9 = 6 ∨ n % 9 = 7 ∨ n % 9 = 8) with h9 | h9 | h9 | h9 | h9 | h9 | h9 | h9 | h9
    · have z := (cell_of_row _ _ 1 _ _ _ R10.out).trans (b := some (Value.int .i64 0)) rfl
      have f : W7.frozen? ⟨b10, 1, none⟩ = false := by simp [World.frozen?, R10.out]
      go_wp2_with fail
      go_meet
      refine ⟨.int .i64 0, .int .i64 1, .int .i64 0, .slice Bc 1 qc, .slice E1 1 q1, .int .i64 0, .slice E2 0 q2, .slice none 0 0, .int .i64 0, .slice none 0 0, .slice none 0 0, .slice E3 0 q3, hid (show Below w6.heap.size w6 (W7.setCell ⟨b10, 1, none⟩ (.int .i64 1)) from (HB7.out.setCell (by rw [HL.out]; exact Nat.le_refl _) _)), hid (show (W7.setCell ⟨b10, 1, none⟩ (.int .i64 1)).heap[b10]? = _ from ((set_at R10.out _).trans rfl)), hid (fun w2 h2 => ?_)⟩
      have hbb := (show Below w6.heap.size w6 (W7.setCell ⟨b10, 1, none⟩ (.int .i64 1)) from (HB7.out.setCell (by rw [HL.out]; exact Nat.le_refl _) _))
      have hb2 := hbb.trans (h2.mono hbb.size)
      have V1 := HV6.out.below hb2
      have V2 := HV6'.out.below hb2
      exact same_steps (by decide)
    · have z := (cell_of_row _ _ 2 _ _ _ R10.out).trans (b := some (Value.int .i64 0)) rfl
      have f : W7.frozen? ⟨b10, 2, none⟩ = false := by simp [World.frozen?, R10.out]
      go_wp2_with fail
      go_meet
      refine ⟨.int .i64 0, .int .i64 0, .int .i64 5, .slice Bc 1 qc, .slice E1 1 q1, .int .i64 0, .slice E2 0 q2, .slice none 0 0, .int .i64 0, .slice none 0 0, .slice none 0 0, .slice E3 0 q3, hid (show Below w6.heap.size w6 (W7.setCell ⟨b10, 2, none⟩ (.int .i64 5)) from (HB7.out.setCell (by rw [HL.out]; exact Nat.le_refl _) _)), hid (show (W7.setCell ⟨b10, 2, none⟩ (.int .i64 5)).heap[b10]? = _ from ((set_at R10.out _).trans rfl)), hid (fun w2 h2 => ?_)⟩
      have hbb := (show Below w6.heap.size w6 (W7.setCell ⟨b10, 2, none⟩ (.int .i64 5)) from (HB7.out.setCell (by rw [HL.out]; exact Nat.le_refl _) _))
      have hb2 := hbb.trans (h2.mono hbb.size)
      have V1 := HV6.out.below hb2
      have V2 := HV6'.out.below hb2
      exact same_clock (by decide)
    · have z := (cell_of_row _ _ 11 _ _ _ R10.out).trans (b := some (Value.slice E3 0 q3)) rfl
      have f : W7.frozen? ⟨b10, 11, none⟩ = false := by simp [World.frozen?, R10.out]
      go_wp2_with fail
      go_meet
      refine ⟨.int .i64 0, .int .i64 0, .int .i64 0, .slice Bc 1 qc, .slice E1 1 q1, .int .i64 0, .slice E2 0 q2, .slice none 0 0, .int .i64 0, .slice none 0 0, .slice none 0 0, .slice (some ⟨W7.heap.size, 0, none⟩) 1 1, hid (show Below w6.heap.size w6 ((W7.setCell ⟨b10, 11, none⟩ (.slice (some ⟨W7.heap.size, 0, none⟩) 1 1)).alloc (.cells #[.string ⟨#[120]⟩] 9)) from ((HB7.out.setCell (by rw [HL.out]; exact Nat.le_refl _) _).alloc (by have := HB7.out.size; go_size) _)), hid (show ((W7.setCell ⟨b10, 11, none⟩ (.slice (some ⟨W7.heap.size, 0, none⟩) 1 1)).alloc (.cells #[.string ⟨#[120]⟩] 9)).heap[b10]? = _ from ((heap_alloc_old _ _ (by simpa using l7)).trans ((set_at R10.out _).trans rfl))), hid (fun w2 h2 => ?_)⟩
      have hbb := (show Below w6.heap.size w6 ((W7.setCell ⟨b10, 11, none⟩ (.slice (some ⟨W7.heap.size, 0, none⟩) 1 1)).alloc (.cells #[.string ⟨#[120]⟩] 9)) from ((HB7.out.setCell (by rw [HL.out]; exact Nat.le_refl _) _).alloc (by have := HB7.out.size; go_size) _))
      have hb2 := hbb.trans (h2.mono hbb.size)
      have V1 := HV6.out.below hb2
      have V2 := HV6'.out.below hb2
      exact same_outs V1.cells V2.cells (by decide) V1.fr V1.frs V2.fr V2.frs (by decide) V1.jobs V2.jobs (by decide)
    · have z := (cell_of_row _ _ 6 _ _ _ R10.out).trans (b := some (Value.slice E2 0 q2)) rfl
      have f : W7.frozen? ⟨b10, 6, none⟩ = false := by simp [World.frozen?, R10.out]
      go_wp2_with fail
      go_meet
      refine ⟨.int .i64 0, .int .i64 0, .int .i64 0, .slice Bc 1 qc, .slice E1 1 q1, .int .i64 0, .slice (some ⟨W7.heap.size, 0, none⟩) 1 1, .slice none 0 0, .int .i64 0, .slice none 0 0, .slice none 0 0, .slice E3 0 q3, hid (show Below w6.heap.size w6 ((W7.setCell ⟨b10, 6, none⟩ (.slice (some ⟨W7.heap.size, 0, none⟩) 1 1)).alloc (.cells #[.int .i64 0, .int .i64 0, .string ⟨#[]⟩, .int .i64 0, .int .i64 0, .string ⟨#[]⟩, .int .i64 0, .bool false] 69)) from ((HB7.out.setCell (by rw [HL.out]; exact Nat.le_refl _) _).alloc (by have := HB7.out.size; go_size) _)), hid (show ((W7.setCell ⟨b10, 6, none⟩ (.slice (some ⟨W7.heap.size, 0, none⟩) 1 1)).alloc (.cells #[.int .i64 0, .int .i64 0, .string ⟨#[]⟩, .int .i64 0, .int .i64 0, .string ⟨#[]⟩, .int .i64 0, .bool false] 69)).heap[b10]? = _ from ((heap_alloc_old _ _ (by simpa using l7)).trans ((set_at R10.out _).trans rfl))), hid (fun w2 h2 => ?_)⟩
      have hbb := (show Below w6.heap.size w6 ((W7.setCell ⟨b10, 6, none⟩ (.slice (some ⟨W7.heap.size, 0, none⟩) 1 1)).alloc (.cells #[.int .i64 0, .int .i64 0, .string ⟨#[]⟩, .int .i64 0, .int .i64 0, .string ⟨#[]⟩, .int .i64 0, .bool false] 69)) from ((HB7.out.setCell (by rw [HL.out]; exact Nat.le_refl _) _).alloc (by have := HB7.out.size; go_size) _))
      have hb2 := hbb.trans (h2.mono hbb.size)
      have V1 := HV6.out.below hb2
      have V2 := HV6'.out.below hb2
      exact same_jobs V1.cells V2.cells (by decide) V1.fr V1.frs V2.fr V2.frs (by decide) (by decide)
    · have z := (cell_of_row _ _ 7 _ _ _ R10.out).trans (b := some (Value.slice none 0 0)) rfl
      have f : W7.frozen? ⟨b10, 7, none⟩ = false := by simp [World.frozen?, R10.out]
      go_wp2_with fail
      go_meet
      refine ⟨.int .i64 0, .int .i64 0, .int .i64 0, .slice Bc 1 qc, .slice E1 1 q1, .int .i64 0, .slice E2 0 q2, .slice (some ⟨W7.heap.size, 0, none⟩) 1 1, .int .i64 0, .slice none 0 0, .slice none 0 0, .slice E3 0 q3, hid (show Below w6.heap.size w6 ((W7.setCell ⟨b10, 7, none⟩ (.slice (some ⟨W7.heap.size, 0, none⟩) 1 1)).alloc (.cells #[.int .i64 0, .int .i64 0, .int .i64 0, .int .i64 0, .string ⟨#[]⟩] 71)) from ((HB7.out.setCell (by rw [HL.out]; exact Nat.le_refl _) _).alloc (by have := HB7.out.size; go_size) _)), hid (show ((W7.setCell ⟨b10, 7, none⟩ (.slice (some ⟨W7.heap.size, 0, none⟩) 1 1)).alloc (.cells #[.int .i64 0, .int .i64 0, .int .i64 0, .int .i64 0, .string ⟨#[]⟩] 71)).heap[b10]? = _ from ((heap_alloc_old _ _ (by simpa using l7)).trans ((set_at R10.out _).trans rfl))), hid (fun w2 h2 => ?_)⟩
      have hbb := (show Below w6.heap.size w6 ((W7.setCell ⟨b10, 7, none⟩ (.slice (some ⟨W7.heap.size, 0, none⟩) 1 1)).alloc (.cells #[.int .i64 0, .int .i64 0, .int .i64 0, .int .i64 0, .string ⟨#[]⟩] 71)) from ((HB7.out.setCell (by rw [HL.out]; exact Nat.le_refl _) _).alloc (by have := HB7.out.size; go_size) _))
      have hb2 := hbb.trans (h2.mono hbb.size)
      have V1 := HV6.out.below hb2
      have V2 := HV6'.out.below hb2
      exact same_timers V1.cells V2.cells (by decide) V1.fr V1.frs V2.fr V2.frs (by decide) V1.jobs V2.jobs (by decide)
    · have z := (cell_of_row _ _ 3 _ _ _ R10.out).trans (b := some (Value.slice Bc 1 qc)) rfl
      have f : W7.frozen? ⟨b10, 3, none⟩ = false := by simp [World.frozen?, R10.out]
      go_wp2_with fail
      go_meet
      refine ⟨.int .i64 0, .int .i64 0, .int .i64 0, .slice none 0 0, .slice E1 1 q1, .int .i64 0, .slice E2 0 q2, .slice none 0 0, .int .i64 0, .slice none 0 0, .slice none 0 0, .slice E3 0 q3, hid (show Below w6.heap.size w6 (W7.setCell ⟨b10, 3, none⟩ (.slice none 0 0)) from (HB7.out.setCell (by rw [HL.out]; exact Nat.le_refl _) _)), hid (show (W7.setCell ⟨b10, 3, none⟩ (.slice none 0 0)).heap[b10]? = _ from ((set_at R10.out _).trans rfl)), hid (fun w2 h2 => ?_)⟩
      have hbb := (show Below w6.heap.size w6 (W7.setCell ⟨b10, 3, none⟩ (.slice none 0 0)) from (HB7.out.setCell (by rw [HL.out]; exact Nat.le_refl _) _))
      have hb2 := hbb.trans (h2.mono hbb.size)
      have V1 := HV6.out.below hb2
      have V2 := HV6'.out.below hb2
      exact same_cells (by decide)
    · have z := (cell_of_row _ _ 4 _ _ _ R10.out).trans (b := some (Value.slice E1 1 q1)) rfl
      have f : W7.frozen? ⟨b10, 4, none⟩ = false := by simp [World.frozen?, R10.out]
      go_wp2_with fail
      go_meet
      refine ⟨.int .i64 0, .int .i64 0, .int .i64 0, .slice Bc 1 qc, .slice none 0 0, .int .i64 0, .slice E2 0 q2, .slice none 0 0, .int .i64 0, .slice none 0 0, .slice none 0 0, .slice E3 0 q3, hid (show Below w6.heap.size w6 (W7.setCell ⟨b10, 4, none⟩ (.slice none 0 0)) from (HB7.out.setCell (by rw [HL.out]; exact Nat.le_refl _) _)), hid (show (W7.setCell ⟨b10, 4, none⟩ (.slice none 0 0)).heap[b10]? = _ from ((set_at R10.out _).trans rfl)), hid (fun w2 h2 => ?_)⟩
      have hbb := (show Below w6.heap.size w6 (W7.setCell ⟨b10, 4, none⟩ (.slice none 0 0)) from (HB7.out.setCell (by rw [HL.out]; exact Nat.le_refl _) _))
      have hb2 := hbb.trans (h2.mono hbb.size)
      have V1 := HV6.out.below hb2
      have V2 := HV6'.out.below hb2
      exact same_frames V1.cells V2.cells (by decide) (by decide)
    · have z := (cell_of_row _ _ 9 _ _ _ R10.out).trans (b := some (Value.slice none 0 0)) rfl
      have f : W7.frozen? ⟨b10, 9, none⟩ = false := by simp [World.frozen?, R10.out]
      go_wp2_with fail
      go_meet
      refine ⟨.int .i64 0, .int .i64 0, .int .i64 0, .slice Bc 1 qc, .slice E1 1 q1, .int .i64 0, .slice E2 0 q2, .slice none 0 0, .int .i64 0, .slice (some ⟨W7.heap.size, 0, none⟩) 1 1, .slice none 0 0, .slice E3 0 q3, hid (show Below w6.heap.size w6 ((W7.setCell ⟨b10, 9, none⟩ (.slice (some ⟨W7.heap.size, 0, none⟩) 1 1)).alloc (.cells #[.int .i64 1] 3)) from ((HB7.out.setCell (by rw [HL.out]; exact Nat.le_refl _) _).alloc (by have := HB7.out.size; go_size) _)), hid (show ((W7.setCell ⟨b10, 9, none⟩ (.slice (some ⟨W7.heap.size, 0, none⟩) 1 1)).alloc (.cells #[.int .i64 1] 3)).heap[b10]? = _ from ((heap_alloc_old _ _ (by simpa using l7)).trans ((set_at R10.out _).trans rfl))), hid (fun w2 h2 => ?_)⟩
      have hbb := (show Below w6.heap.size w6 ((W7.setCell ⟨b10, 9, none⟩ (.slice (some ⟨W7.heap.size, 0, none⟩) 1 1)).alloc (.cells #[.int .i64 1] 3)) from ((HB7.out.setCell (by rw [HL.out]; exact Nat.le_refl _) _).alloc (by have := HB7.out.size; go_size) _))
      have hb2 := hbb.trans (h2.mono hbb.size)
      have V1 := HV6.out.below hb2
      have V2 := HV6'.out.below hb2
      exact same_waits V1.cells V2.cells (by decide) V1.fr V1.frs V2.fr V2.frs (by decide) V1.jobs V2.jobs (by decide)
    · have z := (cell_of_row _ _ 10 _ _ _ R10.out).trans (b := some (Value.slice none 0 0)) rfl
      have f : W7.frozen? ⟨b10, 10, none⟩ = false := by simp [World.frozen?, R10.out]
      go_wp2_with fail
      go_meet
      refine ⟨.int .i64 0, .int .i64 0, .int .i64 0, .slice Bc 1 qc, .slice E1 1 q1, .int .i64 0, .slice E2 0 q2, .slice none 0 0, .int .i64 0, .slice none 0 0, .slice (some ⟨W7.heap.size, 0, none⟩) 1 1, .slice E3 0 q3, hid (show Below w6.heap.size w6 ((W7.setCell ⟨b10, 10, none⟩ (.slice (some ⟨W7.heap.size, 0, none⟩) 1 1)).alloc (.cells #[.int .i64 0, .int .i64 0, .string ⟨#[]⟩] 33)) from ((HB7.out.setCell (by rw [HL.out]; exact Nat.le_refl _) _).alloc (by have := HB7.out.size; go_size) _)), hid (show ((W7.setCell ⟨b10, 10, none⟩ (.slice (some ⟨W7.heap.size, 0, none⟩) 1 1)).alloc (.cells #[.int .i64 0, .int .i64 0, .string ⟨#[]⟩] 33)).heap[b10]? = _ from ((heap_alloc_old _ _ (by simpa using l7)).trans ((set_at R10.out _).trans rfl))), hid (fun w2 h2 => ?_)⟩
      have hbb := (show Below w6.heap.size w6 ((W7.setCell ⟨b10, 10, none⟩ (.slice (some ⟨W7.heap.size, 0, none⟩) 1 1)).alloc (.cells #[.int .i64 0, .int .i64 0, .string ⟨#[]⟩] 33)) from ((HB7.out.setCell (by rw [HL.out]; exact Nat.le_refl _) _).alloc (by have := HB7.out.size; go_size) _))
      have hb2 := hbb.trans (h2.mono hbb.size)
      have V1 := HV6.out.below hb2
      have V2 := HV6'.out.below hb2
      exact same_hands V1.cells V2.cells (by decide) V1.fr V1.frs V2.fr V2.frs (by decide) V1.jobs V2.jobs (by decide)
  case rest =>
    obtain ⟨a0, a1, a2, a3, a4, a5, a6, a7, a8, a9, a10, a11, HB8, HR8, HSm⟩ := hcut
    clear HB7 HL R10 l7 W7
    have HW := hid (HB6.out.trans (HB8.out.mono HB6.out.size))
    have RW := hid ((HB8.out.block _ L9.out).trans R9'.out)
    have HVW := hid (HV6.out.below HB8.out)
    have lw := hid (Nat.lt_of_lt_of_le L9.out HB8.out.size)
    clear HB6 HB8 R9' HV6 HV6' L9
    go_wp2_with fail
    refine (enter_nil wc 0 0 undefV none 0 0).mono ?_
    rintro e w11 ⟨rfl, hb11⟩
    go_wp2_with fail
    refine (error_nil w11 7 ⟨#[120]⟩).mono ?_
    rintro e w12 ⟨rfl, hb12⟩
    unfold VD.agg undefV
    dsimp only
    have hb13 := (Below.refl w12.heap.size w12).alloc (Nat.le_refl _) (.cells #[.int .i64 0, .int .i64 0, .string ByteArray.empty] 33)
    go_upto_region 29 with fail
    have hb := hb11.trans ((hb12.trans (hb13.mono hb12.size)).mono hb11.size)
    have r10 := (hb.block _ (by have := (Array.getElem?_eq_some_iff.1 HR8.out).1; exact this)).trans HR8.out
    have r9 := (hb.block _ (Nat.lt_of_lt_of_le lw.out (Nat.le_refl _))).trans RW.out
    have HB14 := hid (HW.out.trans (hb.mono HW.out.size))
    have HV14 := hid (HVW.out.below hb)
    have HSm14 := hid (fun w2 (h2 : Below _ _ w2) => HSm.out w2 (hb.trans (h2.mono hb.size)))
    clear hb11 hb12 hb13 hb HR8 RW HW HVW HSm lw
    generalize (w12.alloc (.cells #[.int .i64 0, .int .i64 0, .string ByteArray.empty] 33)) = W at r10 r9 HB14 HV14 HSm14 ⊢
    have y0 := ov_row r9 0 rfl
    have z0 := ov_row r10 0 rfl
    have y1 := ov_row r9 1 rfl
    have z1 := ov_row r10 1 rfl
    have y2 := ov_row r9 2 rfl
    have z2 := ov_row r10 2 rfl
    have y3 := ov_row r9 3 rfl
    have z3 := ov_row r10 3 rfl
    have y4 := ov_row r9 4 rfl
    have z4 := ov_row r10 4 rfl
    have y5 := ov_row r9 5 rfl
    have z5 := ov_row r10 5 rfl
    have y6 := ov_row r9 6 rfl
    have z6 := ov_row r10 6 rfl
    have y7 := ov_row r9 7 rfl
    have z7 := ov_row r10 7 rfl
    have y8 := ov_row r9 8 rfl
    have z8 := ov_row r10 8 rfl
    have y9 := ov_row r9 9 rfl
    have z9 := ov_row r10 9 rfl
    have y10 := ov_row r9 10 rfl
    have z10 := ov_row r10 10 rfl
    have y11 := ov_row r9 11 rfl
    have z11 := ov_row r10 11 rfl
    have HT : Box (∀ w2, Below W.heap.size W w2 → Calls Try.prog 22 #[.agg #[.int .i64 0, .int .i64 0, .int .i64 0, .slice Ac 1 pc, .slice A1 1 p1, .int .i64 0, .slice A2 0 p2, .slice none 0 0, .int .i64 0, .slice none 0 0, .slice none 0 0, .slice A3 0 p3], .agg #[.int .i64 0, .int .i64 0, .int .i64 0, .slice Ac 1 pc, .slice A1 1 p1, .int .i64 0, .slice A2 0 p2, .slice none 0 0, .int .i64 0, .slice none 0 0, .slice none 0 0, .slice A3 0 p3]] w2 fun e w' => e = .returned (.bool true) ∧ Below w2.heap.size w2 w') := hid (fun w2 h2 => by
      have V1 := HV14.out.below h2
      exact same_true V1.cells V1.cells (by decide) V1.fr V1.frs V1.fr V1.frs (by decide) V1.jobs V1.jobs V1.outs V1.outs)
    have HZ : Box (∀ w2 : World, Calls Try.prog 22 #[.agg #[.int .i64 0, .int .i64 0, .int .i64 0, .slice none 0 0, .slice none 0 0, .int .i64 0, .slice none 0 0, .slice none 0 0, .int .i64 0, .slice none 0 0, .slice none 0 0, .slice none 0 0], .agg #[.int .i64 0, .int .i64 0, .int .i64 0, .slice none 0 0, .slice none 0 0, .int .i64 0, .slice none 0 0, .slice none 0 0, .int .i64 0, .slice none 0 0, .slice none 0 0, .slice none 0 0]] w2 fun e w' => e = .returned (.bool true) ∧ Below w2.heap.size w2 w') := hid (fun w2 => by
      exact same_true (B := B0) (B' := B0) (C := B0) (C' := B0) (nc := 0) (nf := 0) (nj := 0) (no := 0) (cs := []) (Fs := []) (rows := []) (rows' := []) (js := []) (os := []) cnil cnil (by decide) (rnil _) fnil (rnil _) fnil (by decide) (rnil _) (rnil _) (rnil _) (rnil _))
    clear r9 r10 HV14
    refine wp_region_over_ord ?_
    repeat (first | go_big_quiet_step (fail))
    go_big_quiet_step ((go_at_call 22; exact calls_over (HT.out _ (ov_below _))))
    repeat (first | go_big_quiet_step (fail))
    go_big_quiet_step ((go_at_call 22; exact calls_over (HSm14.out _ (ov_below _))))
    clear HT HSm14
    repeat (first | go_big_quiet_step ((first | (go_at_call 14; exact calls_over_same (err_c _ _)) | (go_at_call 22; exact calls_over (HZ.out _)) | (go_at_call 27; exact calls_over_same (smark_nil _)) | (go_at_call 18; exact calls_over (all_nil _)) | (go_at_call 20; exact calls_over (awake16_c _)))))
    refine wpQuiet_nil ?_
    intro W' hW'
    obtain ⟨x, rfl⟩ := hW'
    go_wp2
    go_ret
    exact ⟨rfl, HB14.out.trans ((ov_below x).mono HB14.out.size)⟩
end Go.Proofs.Ytdgpblhmfkpblaa.Pg
