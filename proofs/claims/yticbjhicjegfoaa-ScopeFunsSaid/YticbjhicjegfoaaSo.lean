/- ScopeFuns. -/
import Derived.Test.YticbjhicjegfoaaSm
import Derived.Laws.Concat
import Derived.Deep.RegionHeld3
import Derived.Deep.DeepCutAuto
import Derived.Deep.Cut
import Derived.Deep.CutRange
namespace Go.Proofs.Yticbjhicjegfoaa.Q
open Go.RowKit
open Go.Proofs.YticbjhicjegfoaaW.PrintWords

def funsA (p : Bool) : Nat → ByteArray
  | 0 => (⟨#[108, 101, 116, 32, 102, 97, 114, 32, 61, 32, 49, 59, 32]⟩ : ByteArray)
  | i + 1 => funsA p i ++ (if p then (⟨#[40, 102, 117, 110, 99, 116, 105, 111, 110, 32, 40, 112, 41, 32, 123, 32]⟩ : ByteArray) else (⟨#[40, 102, 117, 110, 99, 116, 105, 111, 110, 32, 40, 41, 32, 123, 32]⟩ : ByteArray))
def funsB (p : Bool) (k : Nat) : Nat → ByteArray
  | 0 => funsA p k ++ (⟨#[102, 97, 114]⟩ : ByteArray)
  | i + 1 => funsB p k i ++ (⟨#[32, 125, 41]⟩ : ByteArray)
/-- One node of it is as it should be. -/
def funsAt (k : Nat) (p : Bool) (x : Nd) (sp : Sp) (sl : Int) : Bool :=
  !(decide (x.kind = 3) && !(sp.is k 0)) && !(decide (x.kind = 10) && ((!(decide (sl = 1))) == p) && Nat.blt 0 k) && !(decide (x.kind = 24) && !(decide (sl = -1)))
def funsOk (k : Nat) (p : Bool) (T : Tree) (S : Lk) : Bool := (List.range T.l.length).all fun i => match T.l[i]?, S.spots[i]?, S.slots[i]? with
  | some x, some sp, some sl => funsAt k p x sp sl
  | _, _, _ => false
theorem funs_ok : ∀ p : Bool, ∀ k, k < 5 → chk (funsB p k k) (funsOk k p) = true := by decide +kernel
theorem funsA_size (p : Bool) (i : Nat) : (funsA p i).size ≤ 13 + 16 * i := by
  induction i with
  | zero => unfold funsA; decide
  | succ i ih => cases p <;> simp [funsA, ByteArray.size_append] at ih ⊢ <;> (have : (⟨#[40, 102, 117, 110, 99, 116, 105, 111, 110, 32, 40, 112, 41, 32, 123, 32]⟩ : ByteArray).size = 16 := rfl) <;> (have : (⟨#[40, 102, 117, 110, 99, 116, 105, 111, 110, 32, 40, 41, 32, 123, 32]⟩ : ByteArray).size = 15 := rfl) <;> omega
theorem funsB_size (p : Bool) (k i : Nat) : (funsB p k i).size ≤ 16 + 16 * k + 3 * i := by
  induction i with
  | zero =>
    have := funsA_size p k
    have h3 : (⟨#[102, 97, 114]⟩ : ByteArray).size = 3 := rfl
    simp [funsB, ByteArray.size_append]; omega
  | succ i ih =>
    have h3 : (⟨#[32, 125, 41]⟩ : ByteArray).size = 3 := rfl
    simp [funsB, ByteArray.size_append]; omega
set_option maxHeartbeats 3200000 in
set_option maxRecDepth 100000 in
theorem funs_law (w : World) (n : Int) (hn0 : 0 ≤ n) (hn1 : n ≤ 255) (p : Bool) : Calls Try.prog 7 #[.int .u8 n, .bool p] w fun e w' => e = .returned (.bool true) ∧ Below w.heap.size w w' := by
  have y0 : n.tmod 5 = n % 5 := Int.tmod_eq_emod_of_nonneg hn0
  obtain ⟨k, hk5, hk⟩ : ∃ k : Nat, k < 5 ∧ n % 5 = (k : Int) := ⟨(n % 5).toNat, by omega, by omega⟩
  obtain ⟨T, S, p1, p2, p3, p4, p5, p6⟩ := chk_get (funs_ok p k hk5)
  have hln := looked_lens p2
  rw [hk] at y0
  have HPA := hid (parse_ok p1 p4)
  have HSP := hid (fun (w : World) (okl : Nat → Prop) (g cap : Nat) (h : NR w okl g cap T.l) (hlo : ∀ k, okl k → k < w.heap.size) => spots_c h hlo p5 p4 p2)
  have HSL := hid (fun (w : World) (okl : Nat → Prop) (g cap : Nat) (h : NR w okl g cap T.l) (hlo : ∀ k, okl k → k < w.heap.size) => slots_c h hlo p5 p4 p2)
  have HLN := hid hln
  have HP3 := hid p3
  have HP6 := hid p6
  have hp5 : (T.l.length : Int) ≤ 1048576 := by omega
  clear p1 p2 p3 p4 hln p6 hk
  go_enter Try.func7, Try.ntmps7
  go_upto_region 3 with fail
  go_wp2_with fail
  go_loopw [6, 7] (fun x y wx => ∃ i : Nat, i ≤ k ∧ x = .string (funsA p i) ∧ y = .int .i64 i ∧ wx = w) (fun _ y _ => k - (RowKit.intOf y).toNat)
  case atStart => exact ⟨0, Nat.zero_le _, rfl, rfl, rfl⟩
  case round =>
    obtain ⟨i, hi, rfl, rfl, rfl⟩ := hrel
    have hsz := funsA_size p i
    rcases Nat.lt_or_ge i k with hlt | hge
    · have hlt' : (i : Int) < (k : Int) := by omega
      have hA : Box (funsA p (i + 1) = funsA p i ++ (if p then (⟨#[40, 102, 117, 110, 99, 116, 105, 111, 110, 32, 40, 112, 41, 32, 123, 32]⟩ : ByteArray) else (⟨#[40, 102, 117, 110, 99, 116, 105, 111, 110, 32, 40, 41, 32, 123, 32]⟩ : ByteArray))) := hid rfl
      generalize funsA p i = X at *
      cases p
      · have hadd : ∀ w, (Op.stringOp .add X (⟨#[40, 102, 117, 110, 99, 116, 105, 111, 110, 32, 40, 41, 32, 123, 32]⟩ : ByteArray)).run Try.prog w = .ok (.string (X ++ (⟨#[40, 102, 117, 110, 99, 116, 105, 111, 110, 32, 40, 41, 32, 123, 32]⟩ : ByteArray))) w := fun w => run_string_add_sum w _ _ (show X.size + 15 ≤ 9223372036854775807 by omega)
        go_wp2_with fail
        go_roundw
        case rel => exact ⟨i + 1, by omega, by rw [hA.out]; rfl, by go_num, trivial⟩
        case measure => simp [RowKit.intOf]; omega
      · have hadd : ∀ w, (Op.stringOp .add X (⟨#[40, 102, 117, 110, 99, 116, 105, 111, 110, 32, 40, 112, 41, 32, 123, 32]⟩ : ByteArray)).run Try.prog w = .ok (.string (X ++ (⟨#[40, 102, 117, 110, 99, 116, 105, 111, 110, 32, 40, 112, 41, 32, 123, 32]⟩ : ByteArray))) w := fun w => run_string_add_sum w _ _ (show X.size + 16 ≤ 9223372036854775807 by omega)
        go_wp2_with fail
        go_roundw
        case rel => exact ⟨i + 1, by omega, by rw [hA.out]; rfl, by go_num, trivial⟩
        case measure => simp [RowKit.intOf]; omega
    · obtain rfl : i = k := by omega
      have hB : Box (funsB p i 0 = funsA p i ++ (⟨#[102, 97, 114]⟩ : ByteArray)) := hid rfl
      obtain ⟨X, hX⟩ : ∃ X, funsA p i = X := ⟨_, rfl⟩
      rw [hX] at hsz hB
      have hadd : ∀ w, (Op.stringOp .add X (⟨#[102, 97, 114]⟩ : ByteArray)).run Try.prog w = .ok (.string (X ++ (⟨#[102, 97, 114]⟩ : ByteArray))) w := fun w => run_string_add_sum w _ _ (show X.size + 3 ≤ 9223372036854775807 by omega)
      rw [hX]
      clear hX
      go_wp2_with fail
      go_loopw [6, 8] (fun x y wx => ∃ j : Nat, j ≤ i ∧ x = .string (funsB p i j) ∧ y = .int .i64 j ∧ wx = wr) (fun _ y _ => i - (RowKit.intOf y).toNat)
      case atStart => exact ⟨0, Nat.zero_le _, by rw [hB.out], rfl, rfl⟩
      case round =>
        obtain ⟨j, hj, rfl, rfl, rfl⟩ := hrel
        have hsz2 := funsB_size p i j
        rcases Nat.lt_or_ge j i with hlt | hge
        · have hlt' : (j : Int) < (i : Int) := by omega
          have hA : Box (funsB p i (j + 1) = funsB p i j ++ (⟨#[32, 125, 41]⟩ : ByteArray)) := hid rfl
          generalize funsB p i j = X at *
          have hadd : ∀ w, (Op.stringOp .add X (⟨#[32, 125, 41]⟩ : ByteArray)).run Try.prog w = .ok (.string (X ++ (⟨#[32, 125, 41]⟩ : ByteArray))) w := fun w => run_string_add_sum w _ _ (show X.size + 3 ≤ 9223372036854775807 by omega)
          go_wp2_with fail
          go_roundw
          case rel => exact ⟨j + 1, by omega, by rw [hA.out], by go_num, trivial⟩
          case measure => simp [RowKit.intOf]; omega
        · obtain rfl : j = i := by omega
          go_wp2_with fail
          refine (HPA.out wr).mono ?_
          rintro e w1 ⟨okl, g, cap, rfl, hN, hn, hb1⟩
          have hT := heap_alloc_new w1 (.cells #[.slice (some ⟨g, 0, none⟩) T.l.length cap, .int .i64 T.at_, .bool T.ok] 31)
          have hb2 := (Below.refl w1.heap.size w1).alloc (Nat.le_refl _) (.cells #[.slice (some ⟨g, 0, none⟩) T.l.length cap, .int .i64 T.at_, .bool T.ok] 31)
          have HT := hid hT
          have HN := hid (hN.below hb2)
          have HNN := hid (show ∀ k, okl k → k < (w1.alloc (.cells #[.slice (some ⟨g, 0, none⟩) T.l.length cap, .int .i64 T.at_, .bool T.ok] 31)).heap.size from fun k hk => by have := (hn k hk).2; simp; omega)
          have HB2 := hid (hb1.trans (hb2.mono hb1.size))
          have h17 : w1.heap.size < (w1.alloc (.cells #[.slice (some ⟨g, 0, none⟩) T.l.length cap, .int .i64 T.at_, .bool T.ok] 31)).heap.size := by simp
          clear hT hN hn hb1 hb2 HPA
          go_upto_region 15 with fail
          generalize (w1.alloc (.cells #[.slice (some ⟨g, 0, none⟩) T.l.length cap, .int .i64 T.at_, .bool T.ok] 31)) = W2 at *
          have a0 := (cell_of_row _ _ 0 _ _ _ HT.out).trans (b := some (Value.slice (some ⟨g, 0, none⟩) T.l.length cap)) rfl
          go_cut [10, 11] (fun x y wx => ∃ b1 b2, x = .slice (some ⟨b1, 0, none⟩) T.l.length T.l.length ∧ y = .slice (some ⟨b2, 0, none⟩) T.l.length T.l.length ∧ Box (wx.heap[b1]? = some (.cells (spCells S.spots).toArray 40 (0, 0))) ∧ Box (wx.heap[b2]? = some (.cells (slCells S.slots).toArray 3 (0, 0))) ∧ Box (Below W2.heap.size W2 wx))
          case first =>
            go_region_held3 (fun w' => w'.cell? ⟨w1.heap.size, 0, none⟩ = some (.slice (some ⟨g, 0, none⟩) T.l.length cap)) (first | exact a0 | exact a0' | exact a0'')
              (first
                | (go_at_call 17; refine (HSP.out _ okl g cap (HN.out.below (Below.refl _ _).drew) HNN.out).mono ?_; rintro e w3 ⟨b, rfl, hc, hb3, hle3⟩; have a0' := (hb3.cell (p := ⟨w1.heap.size, 0, none⟩) h17).trans a0; have HC3 := hid hc; have HB3 := hid (show Below W2.heap.size W2 w3 from (Below.refl _ _).drew.trans hb3); clear hc hb3 hle3)
                | (go_at_call 18; refine (HSL.out _ okl g cap (HN.out.below HB3.out) (fun k hk => Nat.lt_of_lt_of_le (HNN.out k hk) HB3.out.size)).mono ?_; rintro e w4 ⟨b', rfl, hc, hb4, hle4⟩; have a0'' := (hb4.cell (p := ⟨w1.heap.size, 0, none⟩) (Nat.lt_of_lt_of_le h17 HB3.out.size)).trans a0'; have HC4 := hid hc; have HC3 := hid ((hb4.block b (Array.getElem?_eq_some_iff.1 HC3.out).1).trans HC3.out); have HB4 := hid (HB3.out.trans (hb4.mono HB3.out.size)); clear hc hb4 hle4))
            go_wp2_with fail
            go_meet
            exact ⟨_, _, rfl, rfl, HC3, HC4, HB4⟩
          case rest =>
            obtain ⟨b1, b2, rfl, rfl, HC1, HC2, HB⟩ := hcut
            have HT' := hid ((HB.out.block _ h17).trans HT.out)
            have HN' := hid (HN.out.below HB.out)
            have HBB := hid (HB2.out.trans (HB.out.mono HB2.out.size))
            have a0' := (cell_of_row _ _ 0 _ _ _ HT'.out).trans (b := some (Value.slice (some ⟨g, 0, none⟩) T.l.length cap)) rfl
            have a2' := (cell_of_row _ _ 2 _ _ _ HT'.out).trans (c := some (Value.bool true)) (by rw [HP3.out]; rfl)
            clear HSP HSL HT HN HNN HB HB2 h17 a0
            go_upto_region 18 with fail
            clear a0' a2'
            go_wp2_with fail
            go_loopw [12] (fun x wx => ∃ i : Nat, i ≤ T.l.length ∧ x = .int .i64 i ∧ Box (Below wc.heap.size wc wx)) (fun x _ => T.l.length - (RowKit.intOf x).toNat)
            case atStart => exact ⟨0, Nat.zero_le _, rfl, hid (Below.refl _ _)⟩
            case round =>
              obtain ⟨i, hi, rfl, HK⟩ := hrel
              have hT := (HK.out.block _ (Array.getElem?_eq_some_iff.1 HT'.out).1).trans HT'.out
              have a0 := (cell_of_row _ _ 0 _ _ _ hT).trans (b := some (Value.slice (some ⟨g, 0, none⟩) T.l.length cap)) rfl
              clear hT
              rcases Nat.lt_or_ge i T.l.length with hlt | hge
              · have hlt' : (i : Int) < (T.l.length : Int) := by omega
                obtain ⟨x, hx⟩ : ∃ x, T.l[i]? = some x := ⟨_, List.getElem?_eq_getElem hlt⟩
                obtain ⟨sp, hsp⟩ : ∃ sp, S.spots[i]? = some sp := ⟨_, List.getElem?_eq_getElem (by rw [HLN.out.1]; exact hlt)⟩
                obtain ⟨sl, hsl⟩ : ∃ sl, S.slots[i]? = some sl := ⟨_, List.getElem?_eq_getElem (by rw [HLN.out.2]; exact hlt)⟩
                have hok : funsAt j p x sp sl = true := by
                  have := List.all_eq_true.1 (show (List.range T.l.length).all _ = true from HP6.out) i (List.mem_range.2 hlt)
                  rw [hx, hsp, hsl] at this
                  exact this
                obtain ⟨A3, c3, A4, c4, _, n0, n1, n2, n3, n4, n5, _⟩ := (HN'.out.below HK.out).node hx
                have k1 := (HK.out.block _ (Array.getElem?_eq_some_iff.1 HC1.out).1).trans HC1.out
                have k2 := (HK.out.block _ (Array.getElem?_eq_some_iff.1 HC2.out).1).trans HC2.out
                have s0 := (cell_of_row _ _ (i * 2) _ _ _ k1).trans (c := some (Value.int .i64 sp.depth)) (by simpa using (spCells_at hsp).1)
                have s1 := (cell_of_row _ _ (i * 2 + 1) _ _ _ k1).trans (c := some (Value.int .i64 sp.slot)) (by simpa using (spCells_at hsp).2)
                have l0 := (cell_of_row _ _ i _ _ _ k2).trans (c := some (Value.int .i64 sl)) (by simp [slCells, hsl])
                have z1 : b1 < wr.heap.size := (Array.getElem?_eq_some_iff.1 k1).1
                have z2 : b2 < wr.heap.size := (Array.getElem?_eq_some_iff.1 k2).1
                have z3 : w1.heap.size < wr.heap.size := cell_lt a0
                unfold funsAt Sp.is at hok
                simp only [Bool.and_eq_true, Bool.not_eq_true', Bool.and_eq_false_iff, Bool.not_eq_false', decide_eq_true_eq, decide_eq_false_iff_not] at hok
                obtain ⟨⟨ok1, ok2⟩, ok3⟩ := hok
                clear hx hsp hsl k1 k2
                have hcases : x.kind = 3 ∨ x.kind = 10 ∨ x.kind = 24 ∨ (x.kind ≠ 3 ∧ x.kind ≠ 10 ∧ x.kind ≠ 24) := by omega
                rcases hcases with h3 | h10 | h24 | ho
                · have hd : sp.depth = j ∧ sp.slot = 0 := ok1.resolve_left (fun h => h h3)
                  have t3 : (x.kind == (3 : Int)) = true := by simp [h3]
                  have t10 : (x.kind == (10 : Int)) = false := by simp [h3]
                  have t24 : (x.kind == (24 : Int)) = false := by simp [h3]
                  rw [hd.1] at s0
                  rw [hd.2] at s1
                  clear ok1 ok2 ok3 hd h3
                  go_wp2_with fail
                  go_roundw
                  case rel => exact ⟨i + 1, by omega, by go_num, hid (HK.out.trans (((Below.refl wr.heap.size wr).alloc (Nat.le_refl _) _).mono HK.out.size))⟩
                  case measure => simp [RowKit.intOf]; omega
                · have t3 : (x.kind == (3 : Int)) = false := by simp [h10]
                  have t10 : (x.kind == (10 : Int)) = true := by simp [h10]
                  have t24 : (x.kind == (24 : Int)) = false := by simp [h10]
                  have hq : ((sl != 1) == p) = false ∨ (((sl != 1) == p) = true ∧ ¬ (0 : Int) < (j : Int)) := by
                    have e1 : (sl != (1 : Int)) = !(decide (sl = 1)) := rfl
                    rw [e1]
                    rcases ok2 with (h | h) | h
                    · exact absurd h10 h
                    · exact .inl h
                    · cases hv : ((!(decide (sl = 1))) == p)
                      · exact .inl rfl
                      · refine .inr ⟨rfl, ?_⟩
                        have : ¬ 0 < j := fun hlt => by
                          have h2 : Nat.blt 0 j = true := by rw [Nat.blt_eq]; exact hlt
                          rw [h2] at h; cases h
                        omega
                  clear ok1 ok2 ok3 h10
                  rcases hq with hq | ⟨hq, hj0⟩
                  · go_wp2_with fail
                    go_roundw
                    case rel => exact ⟨i + 1, by omega, by go_num, hid (HK.out.trans (((Below.refl wr.heap.size wr).alloc (Nat.le_refl _) _).mono HK.out.size))⟩
                    case measure => simp [RowKit.intOf]; omega
                  · have hj1 : decide ((0 : Int) < (j : Int)) = false := decide_eq_false hj0
                    go_wp2_with fail
                    go_roundw
                    case rel => exact ⟨i + 1, by omega, by go_num, hid (HK.out.trans (((Below.refl wr.heap.size wr).alloc (Nat.le_refl _) _).mono HK.out.size))⟩
                    case measure => simp [RowKit.intOf]; omega
                · have hd : sl = -1 := ok3.resolve_left (fun h => h h24)
                  have t3 : (x.kind == (3 : Int)) = false := by simp [h24]
                  have t10 : (x.kind == (10 : Int)) = false := by simp [h24]
                  have t24 : (x.kind == (24 : Int)) = true := by simp [h24]
                  rw [hd] at l0
                  clear ok1 ok2 ok3 hd h24
                  go_wp2_with fail
                  go_roundw
                  case rel => exact ⟨i + 1, by omega, by go_num, hid (HK.out.trans (((Below.refl wr.heap.size wr).alloc (Nat.le_refl _) _).mono HK.out.size))⟩
                  case measure => simp [RowKit.intOf]; omega
                · have t3 : (x.kind == (3 : Int)) = false := by simp [ho.1]
                  have t10 : (x.kind == (10 : Int)) = false := by simp [ho.2.1]
                  have t24 : (x.kind == (24 : Int)) = false := by simp [ho.2.2]
                  clear ok1 ok2 ok3 ho
                  go_wp2_with fail
                  go_roundw
                  case rel => exact ⟨i + 1, by omega, by go_num, hid (HK.out.trans (((Below.refl wr.heap.size wr).alloc (Nat.le_refl _) _).mono HK.out.size))⟩
                  case measure => simp [RowKit.intOf]; omega
              · obtain rfl : i = T.l.length := by omega
                go_wp2_with fail
                refine (awake_c wr).mono ?_
                rintro e w9 ⟨rfl, hb9⟩
                have HB9 := hid ((HBB.out.trans (HK.out.mono HBB.out.size)).trans (hb9.mono (Nat.le_trans HBB.out.size HK.out.size)))
                clear hb9
                go_wp2_with fail
                go_ret
                exact ⟨rfl, HB9.out⟩
end Go.Proofs.Yticbjhicjegfoaa.Q
