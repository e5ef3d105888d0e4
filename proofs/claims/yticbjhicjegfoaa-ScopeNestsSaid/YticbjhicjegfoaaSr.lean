/- ScopeNests. -/
import Derived.Test.YticbjhicjegfoaaSm
import Derived.Test.YticbjhicjegfoaaSq0
import Derived.Test.YticbjhicjegfoaaSq1
import Derived.Test.YticbjhicjegfoaaSq2
import Derived.Test.YticbjhicjegfoaaSq3
import Derived.Laws.Concat
namespace Go.Proofs.Yticbjhicjegfoaa.Q
open Go.RowKit
open Go.Proofs.YticbjhicjegfoaaW.PrintWords

theorem bits_of : ∀ (k : Nat) (c : Nat → Bool), ∃ m, m < 2 ^ k ∧ ∀ i, i < k → bitF m i = c i
  | 0, c => ⟨0, by decide, fun i hi => by omega⟩
  | k + 1, c => by
    obtain ⟨m, hm, h⟩ := bits_of k (fun i => c (i + 1))
    refine ⟨(if c 0 then 1 else 0) + 2 * m, ?_, fun i hi => ?_⟩
    · rw [Nat.pow_succ]; split <;> omega
    · cases i with
      | zero =>
        unfold bitF
        rw [Nat.pow_zero, Nat.div_one]
        cases c 0
        · have : ((if false = true then 1 else 0) + 2 * m) % 2 = 0 := by simp
          rw [this]; rfl
        · have : ((if true = true then 1 else 0) + 2 * m) % 2 = 1 := by simp
          rw [this]; rfl
      | succ i =>
        rw [← h i (by omega)]
        unfold bitF
        have : ((if c 0 = true then 1 else 0) + 2 * m) / 2 ^ (i + 1) = m / 2 ^ i := by
          have hp : 2 ^ (i + 1) = 2 * 2 ^ i := by rw [Nat.pow_succ, Nat.mul_comm]
          have hh : ((if c 0 = true then 1 else 0) + 2 * m) / 2 = m := by split <;> omega
          rw [hp, ← Nat.div_div_eq_div_mul, hh]
        rw [this]
theorem nestA_congr {c c' : Nat → Bool} : ∀ {k : Nat}, (∀ i, i < k → c i = c' i) → nestA c k = nestA c' k ∧ nearF c k = nearF c' k
  | 0, _ => ⟨rfl, rfl⟩
  | k + 1, h => by
    obtain ⟨h1, h2⟩ := nestA_congr (k := k) (fun i hi => h i (by omega))
    unfold nestA nearF
    rw [h1, h2, h k (by omega)]
    exact ⟨rfl, rfl⟩
theorem nestB_congr {c c' : Nat → Bool} {k : Nat} (h : ∀ i, i < k → c i = c' i) (j : Nat) : nestB c k j = nestB c' k j := by
  induction j with
  | zero => unfold nestB; rw [(nestA_congr h).1]
  | succ j ih => unfold nestB; rw [ih]
theorem nests_all {k m : Nat} (hk : k < 10) (hm : m < 2 ^ k) : nestChk k m = true := by
  have chunk : ∀ {k b : Nat}, (List.range 64).all (fun m => nestChk k (b + m)) = true → b ≤ m → m < b + 64 → nestChk k m = true := fun {k b} h h1 h2 => by
    have := List.all_eq_true.1 h (m - b) (List.mem_range.2 (by omega))
    rwa [show b + (m - b) = m by omega] at this
  rcases Nat.lt_or_ge k 6 with h6 | h6
  · exact List.all_eq_true.1 (List.all_eq_true.1 nests_small k (List.mem_range.2 h6)) m (List.mem_range.2 hm)
  · rcases (by omega : k = 6 ∨ k = 7 ∨ k = 8 ∨ k = 9) with rfl | rfl | rfl | rfl
    · exact chunk nests_6_0 (by omega) (by omega)
    · rcases (by omega : m < 64 ∨ 64 ≤ m) with h | h
      · exact chunk nests_7_0 (by omega) (by omega)
      · exact chunk nests_7_1 (by omega) (by omega)
    · rcases (by omega : m < 64 ∨ (64 ≤ m ∧ m < 128) ∨ (128 ≤ m ∧ m < 192) ∨ 192 ≤ m) with h | h | h | h
      · exact chunk nests_8_0 (by omega) (by omega)
      · exact chunk nests_8_1 (by omega) (by omega)
      · exact chunk nests_8_2 (by omega) (by omega)
      · exact chunk nests_8_3 (by omega) (by omega)
    · rcases (by omega : m < 64 ∨ (64 ≤ m ∧ m < 128) ∨ (128 ≤ m ∧ m < 192) ∨ (192 ≤ m ∧ m < 256) ∨ (256 ≤ m ∧ m < 320) ∨ (320 ≤ m ∧ m < 384) ∨ (384 ≤ m ∧ m < 448) ∨ 448 ≤ m) with h | h | h | h | h | h | h | h
      · exact chunk nests_9_0 (by omega) (by omega)
      · exact chunk nests_9_1 (by omega) (by omega)
      · exact chunk nests_9_2 (by omega) (by omega)
      · exact chunk nests_9_3 (by omega) (by omega)
      · exact chunk nests_9_4 (by omega) (by omega)
      · exact chunk nests_9_5 (by omega) (by omega)
      · exact chunk nests_9_6 (by omega) (by omega)
      · exact chunk nests_9_7 (by omega) (by omega)
theorem nest_chk {k : Nat} (hk : k < 10) (c : Nat → Bool) : chk (nestB c k k) (nestOk (nearF c k)) = true := by
  obtain ⟨m, hm, h⟩ := bits_of k c
  have := nests_all hk hm
  unfold nestChk at this
  rw [nestL_eq, nestB_congr h, (nestA_congr h).2] at this
  exact this
theorem nestA_size (c : Nat → Bool) (i : Nat) : (nestA c i).size ≤ 11 + 13 * i := by
  induction i with
  | zero => unfold nestA; decide
  | succ i ih =>
    have h1 : ((⟨#[123, 32]⟩ : ByteArray)).size = 2 := rfl
    have h2 : ((⟨#[108, 101, 116, 32, 97, 32, 61, 32, 49, 59, 32]⟩ : ByteArray)).size = 11 := rfl
    have h3 : ((⟨#[108, 101, 116, 32, 120, 32, 61, 32, 50, 59, 32]⟩ : ByteArray)).size = 11 := rfl
    unfold nestA
    rw [ByteArray.size_append, ByteArray.size_append, h1]
    split
    · rw [h2]; omega
    · rw [h3]; omega
theorem nestB_size (c : Nat → Bool) (k i : Nat) : (nestB c k i).size ≤ 12 + 13 * k + 2 * i := by
  induction i with
  | zero =>
    have := nestA_size c k
    have h1 : ((⟨#[97]⟩ : ByteArray)).size = 1 := rfl
    unfold nestB
    rw [ByteArray.size_append, h1]; omega
  | succ i ih =>
    have h1 : ((⟨#[32, 125]⟩ : ByteArray)).size = 2 := rfl
    unfold nestB
    rw [ByteArray.size_append, h1]; omega
theorem nearF_le (c : Nat → Bool) (k : Nat) : nearF c k ≤ k := by
  induction k with
  | zero => exact Nat.le_refl _
  | succ k ih => unfold nearF; split <;> omega
/-- A row of bools that is read. -/
structure BRow (w : World) (A : Option Addr) (n : Nat) (f : Nat → Bool) : Prop where
  le : n ≤ 9223372036854775807
  at_ : ∀ j, j < n → ∃ ad, A = some ad ∧ w.cell? (ad.add j) = some (.bool (f j))
set_option maxHeartbeats 3200000 in
set_option maxRecDepth 100000 in
theorem nests_law (w : World) (n : Int) (hn0 : 0 ≤ n) (hn1 : n ≤ 255) (A : Option Addr) (len cap : Nat) (f : Nat → Bool) (hf : BRow w A len f) : Calls Try.prog 5 #[.int .u8 n, .slice A len cap] w fun e w' => e = .returned (.bool true) ∧ Below w.heap.size w w' := by
  have y0 : n.tmod 10 = n % 10 := Int.tmod_eq_emod_of_nonneg hn0
  obtain ⟨k, hk5, hk⟩ : ∃ k : Nat, k < 10 ∧ n % 10 = (k : Int) := ⟨(n % 10).toNat, by omega, by omega⟩
  obtain ⟨c, hc⟩ : ∃ c : Nat → Bool, ∀ i, c i = (decide (i < len) && f i) := ⟨_, fun _ => rfl⟩
  obtain ⟨T, S, p1, p2, p3, p4, p5, p6⟩ := chk_get (nest_chk hk5 c)
  have hln := looked_lens p2
  rw [hk] at y0
  have HPA := hid (parse_ok p1 p4)
  have HSP := hid (fun (w : World) (okl : Nat → Prop) (g cap : Nat) (h : NR w okl g cap T.l) (hlo : ∀ k, okl k → k < w.heap.size) => spots_c h hlo p5 p4 p2)
  have HLN := hid hln
  have HP3 := hid p3
  have HP6 := hid p6
  have HF := hid hf
  have HCC := hid hc
  have hp5 : (T.l.length : Int) ≤ 1048576 := by omega
  clear p1 p2 p3 p4 hln p6 hk hf hc
  go_enter Try.func5, Try.ntmps5
  go_upto_region 4 with fail
  go_wp2_with fail
  go_loopw [6, 7, 8, 9] (fun x y z t wx => ∃ (i : Nat) (d : Int), i ≤ k ∧ x = .string (nestA c i) ∧ y = .int .i64 d ∧ (d = 0 ∨ d = 1) ∧ z = .int .i64 (nearF c i : Nat) ∧ t = .int .i64 i ∧ wx = w) (fun _ _ _ t _ => k - (RowKit.intOf t).toNat)
  case atStart => exact ⟨0, 0, Nat.zero_le _, rfl, rfl, .inl rfl, rfl, rfl, rfl⟩
  case round =>
    obtain ⟨i, d, hi, rfl, rfl, hd, rfl, rfl, rfl⟩ := hrel
    have hsz := nestA_size c i
    have hnr := nearF_le c i
    rcases Nat.lt_or_ge i k with hlt | hge
    · have hlt' : (i : Int) < (k : Int) := by omega
      have hA : Box (nestA c (i + 1) = (nestA c i ++ (⟨#[123, 32]⟩ : ByteArray)) ++ (if c i then (⟨#[108, 101, 116, 32, 97, 32, 61, 32, 49, 59, 32]⟩ : ByteArray) else (⟨#[108, 101, 116, 32, 120, 32, 61, 32, 50, 59, 32]⟩ : ByteArray))) := hid rfl
      have hN : Box (nearF c (i + 1) = if c i then 0 else nearF c i + 1) := hid rfl
      have hci := HCC.out i
      generalize nestA c i = X at *
      generalize nearF c i = r at *
      have hadd : ∀ w, (Op.stringOp .add X (⟨#[123, 32]⟩ : ByteArray)).run Try.prog w = .ok (.string (X ++ (⟨#[123, 32]⟩ : ByteArray))) w := fun w => run_string_add_sum w _ _ (show X.size + 2 ≤ 9223372036854775807 by omega)
      obtain ⟨Y, hY⟩ : ∃ Y, X ++ (⟨#[123, 32]⟩ : ByteArray) = Y := ⟨_, rfl⟩
      have hYs : Y.size = X.size + 2 := by rw [← hY, ByteArray.size_append]; rfl
      rw [hY] at hadd hA
      clear hY
      have hadd1 : ∀ w, (Op.stringOp .add Y (⟨#[108, 101, 116, 32, 97, 32, 61, 32, 49, 59, 32]⟩ : ByteArray)).run Try.prog w = .ok (.string (Y ++ (⟨#[108, 101, 116, 32, 97, 32, 61, 32, 49, 59, 32]⟩ : ByteArray))) w := fun w => run_string_add_sum w _ _ (show Y.size + 11 ≤ 9223372036854775807 by omega)
      have hadd2 : ∀ w, (Op.stringOp .add Y (⟨#[108, 101, 116, 32, 120, 32, 61, 32, 50, 59, 32]⟩ : ByteArray)).run Try.prog w = .ok (.string (Y ++ (⟨#[108, 101, 116, 32, 120, 32, 61, 32, 50, 59, 32]⟩ : ByteArray))) w := fun w => run_string_add_sum w _ _ (show Y.size + 11 ≤ 9223372036854775807 by omega)
      rcases Nat.lt_or_ge i len with hil | hil
      · have hil' : (i : Int) < (len : Int) := by omega
        have hil2 : decide ((i : Int) < (len : Int)) = true := decide_eq_true hil'
        obtain ⟨ad, rfl, hb⟩ := HF.out.at_ i hil
        rw [decide_eq_true hil, Bool.true_and] at hci
        rw [← hci] at hb
        cases hcv : c i
        · rw [hcv] at hb hA hN
          have HCV := hid hcv
          clear hcv hci
          go_wp2_with fail
          go_roundw
          case rel => exact ⟨i + 1, d, by omega, by rw [hA.out]; rfl, rfl, hd, by rw [hN.out]; simp, by go_num, trivial⟩
          case measure => simp [RowKit.intOf]; omega
        · rw [hcv] at hb hA hN
          have HCV := hid hcv
          clear hcv hci
          go_wp2_with fail
          go_roundw
          case rel => exact ⟨i + 1, 1, by omega, by rw [hA.out]; rfl, rfl, .inr rfl, by rw [hN.out]; rfl, by go_num, trivial⟩
          case measure => simp [RowKit.intOf]; omega
      · have hil' : ¬ (i : Int) < (len : Int) := by omega
        have hil2 : decide ((i : Int) < (len : Int)) = false := decide_eq_false hil'
        rw [decide_eq_false (by omega), Bool.false_and] at hci
        rw [hci] at hA hN
        have HCV := hid hci
        clear hci
        go_wp2_with fail
        go_roundw
        case rel => exact ⟨i + 1, d, by omega, by rw [hA.out]; rfl, rfl, hd, by rw [hN.out]; simp, by go_num, trivial⟩
        case measure => simp [RowKit.intOf]; omega
    · obtain rfl : i = k := by omega
      have hB : Box (nestB c i 0 = nestA c i ++ (⟨#[97]⟩ : ByteArray)) := hid rfl
      obtain ⟨X, hX⟩ : ∃ X, nestA c i = X := ⟨_, rfl⟩
      rw [hX] at hsz hB
      have hadd : ∀ w, (Op.stringOp .add X (⟨#[97]⟩ : ByteArray)).run Try.prog w = .ok (.string (X ++ (⟨#[97]⟩ : ByteArray))) w := fun w => run_string_add_sum w _ _ (show X.size + 1 ≤ 9223372036854775807 by omega)
      rw [hX]
      clear hX
      go_wp2_with fail
      go_loopw [6, 10] (fun x y wx => ∃ j : Nat, j ≤ i ∧ x = .string (nestB c i j) ∧ y = .int .i64 j ∧ wx = wr) (fun _ y _ => i - (RowKit.intOf y).toNat)
      case atStart => exact ⟨0, Nat.zero_le _, by rw [hB.out], rfl, rfl⟩
      case round =>
        obtain ⟨j, hj, rfl, rfl, rfl⟩ := hrel
        have hsz2 := nestB_size c i j
        rcases Nat.lt_or_ge j i with hlt | hge
        · have hlt' : (j : Int) < (i : Int) := by omega
          have hA : Box (nestB c i (j + 1) = nestB c i j ++ (⟨#[32, 125]⟩ : ByteArray)) := hid rfl
          generalize nestB c i j = X at *
          have hadd : ∀ w, (Op.stringOp .add X (⟨#[32, 125]⟩ : ByteArray)).run Try.prog w = .ok (.string (X ++ (⟨#[32, 125]⟩ : ByteArray))) w := fun w => run_string_add_sum w _ _ (show X.size + 2 ≤ 9223372036854775807 by omega)
          go_wp2_with fail
          go_roundw
          case rel => exact ⟨j + 1, by omega, by rw [hA.out], by go_num, trivial⟩
          case measure => simp [RowKit.intOf]; omega
        · obtain rfl : j = i := by omega
          clear hadd hsz2 hB hsz
          go_wp2_with fail
          refine (HPA.out wr).mono ?_
          rintro e w1 ⟨okl, g, cap', rfl, hN, hn, hb1⟩
          have hT := heap_alloc_new w1 (.cells #[.slice (some ⟨g, 0, none⟩) T.l.length cap', .int .i64 T.at_, .bool T.ok] 31)
          have hb2 := (Below.refl w1.heap.size w1).alloc (Nat.le_refl _) (.cells #[.slice (some ⟨g, 0, none⟩) T.l.length cap', .int .i64 T.at_, .bool T.ok] 31)
          have HT := hid hT
          have HN := hid (hN.below hb2)
          have HNN := hid (show ∀ k, okl k → k < (w1.alloc (.cells #[.slice (some ⟨g, 0, none⟩) T.l.length cap', .int .i64 T.at_, .bool T.ok] 31)).heap.size from fun k hk => by have := (hn k hk).2; simp; omega)
          have HB2 := hid (hb1.trans (hb2.mono hb1.size))
          have h17 : w1.heap.size < (w1.alloc (.cells #[.slice (some ⟨g, 0, none⟩) T.l.length cap', .int .i64 T.at_, .bool T.ok] 31)).heap.size := by simp
          clear hT hN hn hb1 hb2 HPA
          go_upto_region 20 with fail
          generalize (w1.alloc (.cells #[.slice (some ⟨g, 0, none⟩) T.l.length cap', .int .i64 T.at_, .bool T.ok] 31)) = W2 at *
          have a0 := (cell_of_row _ _ 0 _ _ _ HT.out).trans (b := some (Value.slice (some ⟨g, 0, none⟩) T.l.length cap')) rfl
          go_wp2_with fail
          refine (HSP.out W2 okl g cap' HN.out HNN.out).mono ?_
          rintro e w3 ⟨b1, rfl, hc, hb3, hle3⟩
          have HT' := hid ((hb3.block _ h17).trans HT.out)
          have HN' := hid (HN.out.below hb3)
          have HBB := hid (HB2.out.trans (hb3.mono HB2.out.size))
          have HC1 := hid hc
          have a0' := (cell_of_row _ _ 0 _ _ _ HT'.out).trans (b := some (Value.slice (some ⟨g, 0, none⟩) T.l.length cap')) rfl
          have a2' := (cell_of_row _ _ 2 _ _ _ HT'.out).trans (c := some (Value.bool true)) (by rw [HP3.out]; rfl)
          have hd1 : decide ((1 : Int) < d) = false := decide_eq_false (by omega)
          have hd2 : ¬ (1 : Int) < d := by omega
          clear HSP HT HN HNN HB2 h17 a0 hc hb3 hle3 hd
          go_upto_region 23 with fail
          clear a0' a2' hd1 hd2
          go_wp2_with fail
          go_loopw [13] (fun x wx => ∃ i : Nat, i ≤ T.l.length ∧ x = .int .i64 i ∧ wx = w3) (fun x _ => T.l.length - (RowKit.intOf x).toNat)
          case atStart => exact ⟨0, Nat.zero_le _, rfl, rfl⟩
          case round =>
            obtain ⟨i, hi, rfl, rfl⟩ := hrel
            have a0 := (cell_of_row _ _ 0 _ _ _ HT'.out).trans (b := some (Value.slice (some ⟨g, 0, none⟩) T.l.length cap')) rfl
            rcases Nat.lt_or_ge i T.l.length with hlt | hge
            · have hlt' : (i : Int) < (T.l.length : Int) := by omega
              obtain ⟨x, hx⟩ : ∃ x, T.l[i]? = some x := ⟨_, List.getElem?_eq_getElem hlt⟩
              obtain ⟨sp, hsp⟩ : ∃ sp, S.spots[i]? = some sp := ⟨_, List.getElem?_eq_getElem (by rw [HLN.out.1]; exact hlt)⟩
              have hok : (!(decide (x.kind = 3) && beqB x.text (⟨#[97]⟩ : ByteArray) && !(sp.is (nearF c j : Int) 0))) = true := by
                have := List.all_eq_true.1 (show (List.range T.l.length).all _ = true from HP6.out) i (List.mem_range.2 hlt)
                rw [hx, hsp] at this
                exact this
              obtain ⟨A3, c3, A4, c4, _, n0, n1, n2, n3, n4, n5, _⟩ := HN'.out.node hx
              have s0 := (cell_of_row _ _ (i * 2) _ _ _ HC1.out).trans (c := some (Value.int .i64 sp.depth)) (by simpa using (spCells_at hsp).1)
              have s1 := (cell_of_row _ _ (i * 2 + 1) _ _ _ HC1.out).trans (c := some (Value.int .i64 sp.slot)) (by simpa using (spCells_at hsp).2)
              clear hx hsp
              rcases Decidable.em (x.kind = 3) with h3 | h3
              · have t3 : (x.kind == (3 : Int)) = true := by simp [h3]
                cases hb : beqB x.text (⟨#[97]⟩ : ByteArray)
                · have tq : (x.text.toList == ((⟨#[97]⟩ : ByteArray)).toList) = false := by rw [toList_beq]; exact hb
                  have tq' : (x.text.toList == [97]) = false := by rw [lit_beq]; exact hb
                  clear hok hb h3
                  go_wp2_with fail
                  go_roundw
                  case rel => exact ⟨i + 1, by omega, by go_num, trivial⟩
                  case measure => simp [RowKit.intOf]; omega
                · have tq : (x.text.toList == ((⟨#[97]⟩ : ByteArray)).toList) = true := by rw [toList_beq]; exact hb
                  have tq' : (x.text.toList == [97]) = true := by rw [lit_beq]; exact hb
                  have hd : sp.depth = (nearF c j : Int) ∧ sp.slot = 0 := by
                    rw [decide_eq_true h3, hb] at hok
                    unfold Sp.is at hok
                    simpa using hok
                  rw [hd.1] at s0
                  rw [hd.2] at s1
                  clear hok hb h3 hd
                  go_wp2_with fail
                  go_roundw
                  case rel => exact ⟨i + 1, by omega, by go_num, trivial⟩
                  case measure => simp [RowKit.intOf]; omega
              · have t3 : (x.kind == (3 : Int)) = false := by simp [h3]
                clear hok h3
                go_wp2_with fail
                go_roundw
                case rel => exact ⟨i + 1, by omega, by go_num, trivial⟩
                case measure => simp [RowKit.intOf]; omega
            · obtain rfl : i = T.l.length := by omega
              go_wp2_with fail
              refine (awake_c wr).mono ?_
              rintro e w9 ⟨rfl, hb9⟩
              have HB9 := hid (HBB.out.trans (hb9.mono HBB.out.size))
              clear hb9
              go_wp2_with fail
              go_ret
              exact ⟨rfl, HB9.out⟩
end Go.Proofs.Yticbjhicjegfoaa.Q
