/- The document's own numbers in bytes (the reference) answer what vint answers: plain laws. -/
import Derived.Test.YtnincfdfobaooaaPVintx5
import Derived.Test.YtnincfdfobaooaaVM
namespace Go.Proofs.Ytnincfdfobaooaa.VM
open Go.RowKit Go.Proofs.YtnincfdfobaooaaW.PrintWords Go.Proofs.YtnincfdfobaooaaW.PrintLast Go.Proofs.YtnincfdfobaooaaW.PrintMore
open Go.Proofs.Ytnincfdfobaooaa.PVint Go.Proofs.Ytnincfdfobaooaa.VB

attribute [local irreducible] acc bt

theorem rput_l0 : ∀ (f k : Nat) (x : List Int) (u : Int), 0 ≤ u → u < 128 ^ (f + 1) → f < k → x.length + f < 140737488355328 →
    boomerangref1_Put.l0 k u x = some (strOfNums (x ++ enc f u))
  | _, 0, _, _, _, _, h, _ => by omega
  | 0, k + 1, x, u, h0, h1, _, hl => by
    simp only [boomerangref1_Put.l0]; rw [if_neg (by omega), if_pos (by omega)]; rfl
  | f + 1, k + 1, x, u, h0, h1, hk, hl => by
    simp only [boomerangref1_Put.l0, enc]
    by_cases h : u ≥ 128
    · rw [if_pos h, if_pos (by omega), if_pos h, or128 _ (by omega) (by omega)]
      rw [rput_l0 f k _ (u / 128) (by omega) (by rw [Int.pow_succ] at h1; omega) (by omega) (by simp; omega)]
      rw [List.append_assoc, show u % 256 % 128 = u % 128 by omega]; rfl
    · rw [if_neg h, if_pos (by omega), if_neg h]

theorem runsigned (n : Int) (hn : I64 n) : boomerangref1_unsigned.f n = some (fold n) := by
  have := hn.1; have := hn.2
  unfold boomerangref1_unsigned.f fold
  by_cases h : n < 0
  · rw [if_pos h, if_pos h]; simp only [wrap64, wrap_u64]; congr 1; omega
  · rw [if_neg h, if_neg h]; simp only [wrap_u64]; congr 1; omega

theorem rput (k : Nat) (n : Int) (hn : I64 n) (hk : 10 ≤ k) : boomerangref1_Put.f k n = some (P n) := by
  have hr := fold_range n hn.1 hn.2
  unfold boomerangref1_Put.f
  rw [runsigned n hn, Option.bind_some, rput_l0 9 k [] _ hr.1 (by omega) (by omega) (by simp)]
  rfl

/-- A reading behind a bytes, told from the front. -/
def back (a : Nat) (r : Int × Int × Int) : Int × Int × Int := if r.2.2 = 0 then (r.1, (a : Int) + r.2.1, 0) else (0, 0, r.2.2)
theorem back_ok (a : Nat) (n m : Int) : back a (n, m, 0) = (n, (a : Int) + m, 0) := by simp [back]
theorem back_3 (a : Nat) : back a (0, 0, 3) = (0, 0, 3) := by simp [back]
theorem back_4 (a : Nat) : back a (0, 0, 4) = (0, 0, 4) := by simp [back]

theorem extract_at (s : ByteArray) (a n : Nat) (h : a + n ≤ s.size) : (s.extract a s.size).extract 0 n = s.extract a (a + n) := by
  rw [ByteArray.extract_extract, Nat.add_zero, Nat.min_eq_left h]

/-- The document's loop at a place is the loop over what stands behind that place. -/
theorem rget_l0 (s : ByteArray) (a : Nat) (ha : a ≤ s.size) (hs : s.size ≤ 140737488355328) : ∀ (d k : Nat) (u : Int) (i : Nat), i + d = 10 → d + 11 ≤ k → i ≤ s.size - a → 0 ≤ u → u < 18446744073709551616 →
    boomerangref1_Get.l0 k s a u i = some (back a (rdl (s.extract a s.size) (min (s.size - a) 10 - i) u i))
  | _, 0, _, _, _, h, _, _, _ => by omega
  | 0, k + 1, u, i, he, hk, hi, h0, h1 => by
    have hes : (s.extract a s.size).size = s.size - a := by rw [ByteArray.size_extract]; omega
    simp only [boomerangref1_Get.l0]
    rw [if_neg (by omega), show min (s.size - a) 10 - i = 0 by omega]
    simp only [rdl]
    rw [if_neg (by omega), back_4]
  | d + 1, k + 1, u, i, he, hk, hi, h0, h1 => by
    have hes : (s.extract a s.size).size = s.size - a := by rw [ByteArray.size_extract]; omega
    have hw : wrap64 ((a : Int) + i) = (a : Int) + i := by unfold wrap64; omega
    have hw7 : wrap64 (7 * (i : Int)) = 7 * (i : Int) := by unfold wrap64; omega
    simp only [boomerangref1_Get.l0]
    rw [if_pos (by omega), hw]
    by_cases hend : (a : Int) + i ≥ s.size
    · rw [if_pos hend, show min (s.size - a) 10 - i = 0 by omega]
      simp only [rdl]
      rw [if_pos (by omega), back_3]
    · obtain ⟨m, hm⟩ : ∃ m, min (s.size - a) 10 - i = m + 1 := ⟨min (s.size - a) 10 - i - 1, by omega⟩
      rw [if_neg hend, if_pos (by omega), if_pos (by omega), hw7, if_pos (by omega)]
      have hbt : bt s ((a : Int) + i) = bt (s.extract a s.size) i := by
        rw [bt_extract s a s.size i (by omega) (by omega), Int.natCast_add]
      have hac := acc_range u (bt (s.extract a s.size) i) i
      have hw1 : wrap64 ((a : Int) + i + 1) = (a : Int) + i + 1 := by unfold wrap64; omega
      have hA : Go.bits .or .u64 u (shl .u64 (IntKind.u64.wrap (Go.bits .and .u8 (bt (s.extract a s.size) i) 127)) (7 * (i : Int))) = acc u (bt (s.extract a s.size) i) i := by simp only [acc]
      rw [hm, hbt, hA, hw1]
      clear hA hw1 hw hw7 hbt
      simp only [rdl]
      have ih := rget_l0 s a ha hs d k (acc u (bt (s.extract a s.size) i) i) (i + 1) (by omega) (by omega) (by omega) hac.1 hac.2
      rw [show min (s.size - a) 10 - (i + 1) = m by omega] at ih
      have hur := unfold_range _ hac.1 hac.2
      have hand : Hid (Go.bits .and .u64 (acc u (bt (s.extract a s.size) i) i) 1 = acc u (bt (s.extract a s.size) i) i % 2) := and1 _ hac.1 hac.2
      generalize acc u (bt (s.extract a s.size) i) i = U at ih hac hur hand ⊢
      by_cases hb : bt (s.extract a s.size) i < 128
      · have hb2 : ¬ bt (s.extract a s.size) i ≥ 128 := by omega
        rw [if_pos hb, if_neg hb2, hand.out]
        clear hand
        have hx : s.extract (a : Int).toNat ((a : Int) + i + 1).toNat = (s.extract a s.size).extract 0 (i + 1) := by
          rw [extract_at s a (i + 1) (by omega), Int.toNat_natCast, show ((a : Int) + i + 1).toNat = a + (i + 1) by omega]
        rw [hx]
        by_cases hodd : U % 2 = 1
        · rw [if_pos hodd]
          have e : wrap64 (wrap64 (-(wrap64 (U / 2))) - 1) = unfold_ U := by unfold unfold_; rw [if_pos hodd]; unfold wrap64; omega
          rw [e, rput k _ hur (by omega), Option.bind_some, if_pos (by omega), if_pos (by omega), if_pos (by omega)]
          split
          · rw [back_ok, Int.add_assoc]
          · rw [back_4]
        · rw [if_neg hodd]
          have e : wrap64 (U / 2) = unfold_ U := by unfold unfold_; rw [if_neg hodd]; unfold wrap64; omega
          rw [e, rput k _ hur (by omega), Option.bind_some, if_pos (by omega), if_pos (by omega), if_pos (by omega)]
          split
          · rw [back_ok, Int.add_assoc]
          · rw [back_4]
      · have hb2 : bt (s.extract a s.size) i ≥ 128 := by omega
        rw [if_neg hb, if_pos hb2, show wrap64 ((i : Int) + 1) = ((i + 1 : Nat) : Int) by unfold wrap64; omega]
        exact ih

theorem rget (k : Nat) (s : ByteArray) (at_ : Int) (hs : s.size ≤ 140737488355328) (hk : 22 ≤ k) : boomerangref1_Get.f k s at_ = some (G s at_) := by
  obtain ⟨k, rfl⟩ : ∃ m, k = m + 1 := ⟨k - 1, by omega⟩
  unfold boomerangref1_Get.f G
  by_cases h0 : at_ < 0
  · rw [if_pos h0, if_pos (.inl h0)]; simp only [boomerangref1_Get.j0, if_true]
  · rw [if_neg h0]
    by_cases h1 : at_ > (s.size : Int)
    · rw [if_pos (.inr h1)]; simp [boomerangref1_Get.j0, h1]
    · rw [if_neg (by omega)]
      have hd : decide (at_ > (s.size : Int)) = false := by simpa using h1
      simp only [boomerangref1_Get.j0]
      rw [hd, if_neg (by decide)]
      obtain ⟨a, rfl⟩ := Int.eq_ofNat_of_zero_le (show 0 ≤ at_ by omega)
      rw [Int.toNat_natCast]
      have hes : (s.extract a s.size).size = s.size - a := by rw [ByteArray.size_extract]; omega
      have := rget_l0 s a (by omega) hs 10 k 0 0 (by omega) (by omega) (by omega) (by omega) (by omega)
      rw [Nat.sub_zero] at this
      unfold R
      rw [hes]
      exact this

theorem rgetText (k : Nat) (s : ByteArray) (at_ : Int) (hs : s.size ≤ 140737488355328) (hk : 23 ≤ k) : boomerangref1_GetText.f k s at_ = some (GT s at_) := by
  obtain ⟨k, rfl⟩ : ∃ m, k = m + 1 := ⟨k - 1, by omega⟩
  unfold boomerangref1_GetText.f
  rw [rget (k + 1) s at_ hs (by omega), Option.bind_some]
  unfold GT G
  by_cases h0 : at_ < 0 ∨ at_ > (s.size : Int)
  · simp only [if_pos h0]; simp
  · rw [if_neg h0, if_neg h0]
    obtain ⟨a, rfl⟩ := Int.eq_ofNat_of_zero_le (show 0 ≤ at_ by omega)
    rw [Int.toNat_natCast]
    have hes : (s.extract a s.size).size = s.size - a := by rw [ByteArray.size_extract]; omega
    unfold T
    have hok := R_ok (s.extract a s.size)
    rw [hes] at hok ⊢
    generalize R (s.extract a s.size) = r at *
    rcases hok with ⟨e0, e1, e2, e3, e4⟩ | ⟨e1, e2, e3⟩
    · simp only [if_pos e0]
      by_cases hn : r.1 < 0
      · simp only [if_pos hn, if_pos (show r.1 < 0 ∨ r.1 > 4096 from .inl hn)]
        simp [boomerangref1_GetText.j0]
      · rw [if_neg hn]
        by_cases hm : r.1 > 4096
        · simp only [if_pos (show r.1 < 0 ∨ r.1 > 4096 from .inr hm)]
          simp [boomerangref1_GetText.j0, hm]
        · have hd : decide (r.1 > 4096) = false := by simpa using hm
          simp only [if_neg (show ¬ (r.1 < 0 ∨ r.1 > 4096) by omega), boomerangref1_GetText.j0]
          rw [hd, if_pos True.intro, if_neg (by decide)]
          rw [show wrap64 ((a : Int) + r.2.1 + r.1) = (a : Int) + r.2.1 + r.1 by unfold wrap64; omega]
          by_cases hl : ((s.size - a : Nat) : Int) - r.2.1 < r.1
          · rw [if_pos (by omega)]; simp only [if_pos hl]; simp
          · rw [if_neg (by omega), if_pos (by omega), if_pos (by omega), if_pos (by omega)]
            simp only [if_neg hl, if_true]
            congr 2
            · rw [ByteArray.extract_extract]; congr 1 <;> omega
            · congr 1; omega
    · simp only [if_neg (show ¬ r.2.2 = 0 by omega)]

theorem txt (k : Nat) (t : ByteArray) (ht : t.size ≤ 140737488355328) (hk : 10 ≤ k) : vint_Text.f k t = some (TX t) := by
  have hp := P_size (t.size : Int)
  unfold vint_Text.f TX
  rw [put k _ ⟨by omega, by omega⟩ hk, Option.bind_some, if_pos (by omega)]
theorem rtxt (k : Nat) (t : ByteArray) (ht : t.size ≤ 140737488355328) (hk : 10 ≤ k) : boomerangref1_Text.f k t = some (TX t) := by
  have hp := P_size (t.size : Int)
  unfold boomerangref1_Text.f TX
  rw [rput k _ ⟨by omega, by omega⟩ hk, Option.bind_some, if_pos (by omega)]
end Go.Proofs.Ytnincfdfobaooaa.VM
