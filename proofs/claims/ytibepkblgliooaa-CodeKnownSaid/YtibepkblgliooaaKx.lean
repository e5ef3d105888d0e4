/- What a proof further on needs (part x). -/
import Derived.Test.YtibepkblgliooaaKw
set_option linter.unusedVariables false
namespace Go.Proofs.Ytibepkblgliooaa.Q
open Go.RowKit
open Go.Proofs.YtibepkblgliooaaW.PrintWords
theorem opsB_at : ∀ {l : List Ins} {w : List Int} {i : Nat} {y : Int}, opsB l w = true → w[i]? = some y → ∃ x, l[i]? = some x ∧ x.op = y
  | _, [], i, y, _, h => by simp at h
  | [], _ :: _, _, _, h, _ => by simp [opsB] at h
  | x :: l, z :: w, 0, y, h, hy => by
    unfold opsB at h
    simp only [Bool.and_eq_true, decide_eq_true_eq] at h
    have e : z = y := by simpa using hy
    exact ⟨x, rfl, h.1.trans e⟩
  | x :: l, z :: w, i + 1, y, h, hy => by
    unfold opsB at h
    simp only [Bool.and_eq_true] at h
    obtain ⟨u, h1, h2⟩ := opsB_at h.2 (show w[i]? = some y by simpa using hy)
    exact ⟨u, by simpa using h1, h2⟩
def knownB (w : World) : List Obj := [Obj.cells (knownL.map fun x => Value.string x.1).toArray 9] ++ knownL.map (fun x => Obj.cells (slCells x.2).toArray 3) ++ [.cells (knownL.zipIdx.map fun x => Value.slice (some ⟨w.heap.size + (x.2 + 1), 0, none⟩) x.1.2.length x.1.2.length).toArray 35]
set_option maxHeartbeats 3200000 in
set_option maxRecDepth 100000 in
theorem known_law (w : World) (n : Int) (hn0 : 0 ≤ n) (hn1 : n ≤ 255) : Calls Try.prog 4 #[.int .u8 n] w fun e w' => e = .returned (.bool true) ∧ Below w.heap.size w w' := by
  have y0 : n.tmod 7 = n % 7 := Int.tmod_eq_emod_of_nonneg hn0
  obtain ⟨k, hk7, hk⟩ : ∃ k : Nat, k < 7 ∧ n % 7 = (k : Int) := ⟨(n % 7).toNat, by omega, by omega⟩
  obtain ⟨x, hx⟩ : ∃ x, knownL[k]? = some x := ⟨_, List.getElem?_eq_getElem hk7⟩
  obtain ⟨T, Fs, f1, _, P1, C1⟩ := chkM_c (List.all_eq_true.1 known_ok x (List.mem_of_getElem? hx))
  obtain ⟨fn, rfl, hlen, hops⟩ : ∃ fn, Fs = [fn] ∧ fn.code.length = x.2.length + 2 ∧ opsB fn.code x.2 = true := by
    split at f1
    · rename_i fn
      simp only [Bool.and_eq_true, Nat.beq_eq] at f1
      exact ⟨fn, rfl, f1⟩
    · cases f1
  rw [hk] at y0
  obtain ⟨W, hW⟩ : ∃ W : World, W = allocs w (knownB w) := ⟨_, rfl⟩
  have hb : Below w.heap.size w W := by rw [hW]; exact allocs_below _ (Nat.le_refl _) (Below.refl _ _)
  have hsz : W.heap.size = w.heap.size + 9 := by rw [hW, allocs_size]; rfl
  have b0 : W.heap[w.heap.size + 0]? = some (Obj.cells (knownL.map fun x => Value.string x.1).toArray 9) := by rw [hW]; exact allocs_at (l := knownB w) (i := 0) rfl
  have b8 : W.heap[w.heap.size + 8]? = some (Obj.cells (knownL.zipIdx.map fun x => Value.slice (some ⟨w.heap.size + (x.2 + 1), 0, none⟩) x.1.2.length x.1.2.length).toArray 35) := by rw [hW]; exact allocs_at (l := knownB w) (i := 8) rfl
  have bk : W.heap[w.heap.size + (k + 1)]? = some (Obj.cells (slCells x.2).toArray 3) := by
    rw [hW]; refine allocs_at (l := knownB w) (i := k + 1) ?_
    unfold knownB
    rw [List.getElem?_append_left (by simp [knownL]; omega), List.getElem?_append_right (by simp)]
    simp [hx]
  have q1 : W.cell? ⟨w.heap.size, k, none⟩ = some (.string x.1) := (cell_of_row _ _ _ _ _ _ b0).trans (by simp [hx])
  have q3 : W.cell? ⟨w.heap.size + 1 + 1 + 1 + 1 + 1 + 1 + 1 + 1, k, none⟩ = some (.slice (some ⟨w.heap.size + (k + 1), 0, none⟩) x.2.length x.2.length) := (cell_of_row _ _ _ _ _ _ b8).trans (by simp [hx])
  have hk0 : (0 : Int) ≤ (k : Int) := by omega
  have hk7' : (k : Int) < 7 := by omega
  obtain ⟨src, ws⟩ := x
  dsimp only at *
  have hwl : ws.length ≤ 10 := by
    have : ∀ x ∈ knownL, x.2.length ≤ 10 := by decide
    exact this _ (List.mem_of_getElem? hx)
  have HW := hid hW
  have HQ := hid q3
  have HBK := hid bk
  have HP1 := hid P1
  have HC1 := hid C1
  have HB := hid hb
  have HSZ := hid hsz
  have HOP := hid (And.intro hlen hops)
  have hfl := fun A n c a b w => field_l A n c a b w
  clear hx hW b0 b8 bk q3 hk hb hsz P1 C1 f1 hlen hops
  go_enter Try.func4, Try.ntmps4
  go_upto_region 4 with fail
  have hcw : ∀ {P : Program} {c : Code} {Q : Exit → Act → World → Prop} {a : Act}, Code.wp P c Q a W → Code.wp P c Q a (allocs w (knownB w)) := by
    intro P c Q a h; rw [← HW.out]; exact h
  refine hcw ?_
  clear hcw HW
  go_wp2_with fail
  refine (HP1.out _).mono ?_
  rintro e w1 ⟨okl, g, cap, rfl, hN, hn, hb⟩
  have HN := hid hN
  have HNN := hid hn
  have HB1 := hid hb
  clear hN hn hb HP1 q1
  go_wp2_with fail
  refine (HC1.out w1 okl g cap HN.out (fun k hk => (HNN.out k hk).2)).mono ?_
  rintro e w2 ⟨v, ok, rfl, hF, hok, hb⟩
  have HB2 := hid (HB1.out.trans (hb.mono HB1.out.size))
  obtain ⟨g2, c2, rfl⟩ := N_headFn hF (Nat.succ_pos _)
  have HF := hid hF
  obtain ⟨Ac, cc, _, _, _, _, _, d4, _, hC⟩ := fnAt (i := 0) hF rfl
  have d4' : w2.cell? ⟨g2, 4, none⟩ = some (.slice Ac (ws.length + 2) cc) := by rw [← HOP.out.1]; simpa using d4
  have q3 := (HB2.out.cell (p := ⟨w.heap.size + 1 + 1 + 1 + 1 + 1 + 1 + 1 + 1, k, none⟩) (by have := HSZ.out; show w.heap.size + 1 + 1 + 1 + 1 + 1 + 1 + 1 + 1 < _; omega)).trans HQ.out
  have HC := hid hC
  have HD4 := hid d4'
  have hwl' : (ws.length : Int) ≤ 10 := by omega
  clear hb hF hok HN HNN HB1 HC1 d4 hC
  go_upto_region 5 with fail
  go_quiet (fail)
  generalize hWe : w2.drewN _ = We
  have HBe := hid (show Below w2.heap.size w2 We by rw [← hWe]; exact pw_below_drewN (Below.refl _ _) _)
  clear hWe q3 d4'
  go_wp2_with fail
  go_loopw [7] (fun x wx => ∃ i : Nat, i ≤ ws.length ∧ x = .int .i64 i ∧ Box (Below w2.heap.size w2 wx)) (fun x _ => ws.length - (RowKit.intOf x).toNat)
  case atStart => exact ⟨0, Nat.zero_le _, rfl, HBe⟩
  case round =>
    clear HBe
    obtain ⟨i, hi, rfl, HBe⟩ := hrel
    have HBW := hid (HB2.out.trans (HBe.out.mono HB2.out.size))
    have q3 := (HBW.out.cell (p := ⟨w.heap.size + 1 + 1 + 1 + 1 + 1 + 1 + 1 + 1, k, none⟩) (by have := HSZ.out; show w.heap.size + 1 + 1 + 1 + 1 + 1 + 1 + 1 + 1 < _; omega)).trans HQ.out
    rcases Nat.lt_or_ge i ws.length with hlt | hge
    · have hlt' : (i : Int) < (ws.length : Int) := by omega
      obtain ⟨y, hy⟩ : ∃ y, ws[i]? = some y := ⟨_, List.getElem?_eq_getElem hlt⟩
      obtain ⟨x, hx, hxy⟩ := opsB_at HOP.out.2 hy
      have bk := (HBW.out.block _ (by have := HSZ.out; omega)).trans HBK.out
      have q4 : wr.cell? ⟨w.heap.size + (k + 1), i, none⟩ = some (.int .i64 y) := (cell_of_row _ _ _ _ _ _ bk).trans (by simp [slCells, hy])
      obtain ⟨ad, rfl, hin, x0, _⟩ := insAt (Kd.C_below HC.out HBe.out) hx
      rw [hxy] at x0
      have d4' := keepc HBe.out HD4.out
      have hlt2 : (i : Int) < (ws.length : Int) + 2 := by omega
      clear hy hx hxy bk
      go_wp2_with fail
      go_quiet (fail)
      go_wp2_with fail
      go_roundw
      case rel => exact ⟨i + 1, by omega, by go_num, hid (HBe.out.trans (pw_below_drewN (Below.refl _ _) _ |>.mono HBe.out.size))⟩
      case measure => simp [RowKit.intOf]; omega
    · obtain rfl : i = ws.length := by omega
      go_wp2_with fail
      refine (awakeM_c _).mono ?_
      rintro e w5 ⟨rfl, hb5⟩
      have HB5 := hid (HB.out.trans ((HBW.out.trans (hb5.mono HBW.out.size)).mono HB.out.size))
      clear hb5
      go_wp2_with fail
      go_ret
      exact ⟨rfl, HB5.out⟩
end Go.Proofs.Ytibepkblgliooaa.Q
