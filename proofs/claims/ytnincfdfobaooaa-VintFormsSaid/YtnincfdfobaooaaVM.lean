/- Plain laws of the numbers in bytes (vint): what Put, read, Get, text and GetText answer, as functions without memory; that what was put is told again, and what is cut is not. -/
import Derived.Test.YtnincfdfobaooaaPVintx2
import Derived.Test.YtnincfdfobaooaaVBits
import Derived.Lib.Strings
namespace Go.Proofs.Ytnincfdfobaooaa.VM
open Go.RowKit Go.Proofs.YtnincfdfobaooaaW.PrintWords Go.Proofs.YtnincfdfobaooaaW.PrintLast Go.Proofs.YtnincfdfobaooaaW.PrintMore
open Go.Proofs.Ytnincfdfobaooaa.PVint Go.Proofs.Ytnincfdfobaooaa.VB

def I64 (n : Int) : Prop := -9223372036854775808 ≤ n ∧ n < 9223372036854775808

def P (n : Int) : ByteArray := strOfNums (enc 9 (fold n))

theorem P_size (n : Int) : 1 ≤ (P n).size ∧ (P n).size ≤ 10 := by
  unfold P; rw [strOfNums_size]; have := enc_length 9 (fold n); omega

theorem put_l0 : ∀ (f k : Nat) (x : List Int) (u : Int), 0 ≤ u → u < 128 ^ (f + 1) → f < k → x.length + f < 140737488355328 →
    vint_Put.l0 k x u = some (strOfNums (x ++ enc f u))
  | _, 0, _, _, _, _, h, _ => by omega
  | 0, k + 1, x, u, h0, h1, _, hl => by
    simp only [vint_Put.l0]; rw [if_neg (by omega), if_pos (by omega)]; rfl
  | f + 1, k + 1, x, u, h0, h1, hk, hl => by
    simp only [vint_Put.l0, enc]
    by_cases h : u ≥ 128
    · rw [if_pos h, if_pos (by omega), if_pos h, or128 _ (by omega) (by omega)]
      rw [put_l0 f k _ (u / 128) (by omega) (by rw [Int.pow_succ] at h1; omega) (by omega) (by simp; omega)]
      rw [List.append_assoc, show u % 256 % 128 = u % 128 by omega]; rfl
    · rw [if_neg h, if_pos (by omega), if_neg h]

theorem put (k : Nat) (n : Int) (hn : I64 n) (hk : 10 ≤ k) : vint_Put.f k n = some (P n) := by
  have hr := fold_range n hn.1 hn.2
  unfold vint_Put.f vint_folded.f
  rw [fold_eq n hn.1 hn.2, Option.bind_some, put_l0 9 k [] _ hr.1 (by omega) (by omega) (by simp)]
  rfl

/-- What one more byte adds. -/
def acc (u c : Int) (i : Nat) : Int := Go.bits .or .u64 u (shl .u64 (IntKind.u64.wrap (Go.bits .and .u8 c 127)) (7 * (i : Int)))

theorem acc_range (u c : Int) (i : Nat) : 0 ≤ acc u c i ∧ acc u c i < 18446744073709551616 := by
  unfold acc Go.bits; rw [wrap_u64]; omega

theorem bt_range (s : ByteArray) (i : Int) : 0 ≤ bt s i ∧ bt s i < 256 := by
  unfold bt; split
  · rename_i h; have := (s[i.toNat]).toNat_lt; omega
  · omega

theorem pow_le (a b : Nat) (h : a ≤ b) : (2 : Int) ^ a ≤ 2 ^ b := by
  have := Nat.pow_le_pow_right (n := 2) (by decide) h
  exact_mod_cast this

theorem pow_pos' (a : Nat) : (0 : Int) < 2 ^ a := by
  have := Nat.two_pow_pos a
  exact_mod_cast this

theorem acc_eq (u c : Int) (i : Nat) (hi : i ≤ 9) (hc0 : 0 ≤ c) (hc : c < 256) (hu0 : 0 ≤ u) (hu : u < 2 ^ (7 * i)) (hb : (c % 128) * 2 ^ (7 * i) < 18446744073709551616) :
    acc u c i = u + (c % 128) * 2 ^ (7 * i) := by
  unfold acc shl
  rw [and127 c hc0 hc, show (IntKind.u64.wrap (c % 128)) = c % 128 by rw [wrap_u64]; omega]
  rw [show min (7 * (i : Int)).toNat IntKind.u64.bits = 7 * i by simp [IntKind.bits]; omega]
  have hp := pow_pos' (7 * i)
  have hm : 0 ≤ (c % 128) * 2 ^ (7 * i) := Int.mul_nonneg (by omega) (by omega)
  have hle := pow_le (7 * i) 63 (by omega)
  have h64 : (2 : Int) ^ 63 = 9223372036854775808 := by decide
  rw [show IntKind.u64.wrap (c % 128 * 2 ^ (7 * i)) = c % 128 * 2 ^ (7 * i) by rw [wrap_u64]; exact Int.emod_eq_of_lt hm hb]
  rw [or_join (7 * i) _ _ hm (Int.mul_emod_left _ _) hb hu0 hu (by omega)]
  omega

/-- What the bytes from place i on say, where d may still be looked at. -/
def rdl (s : ByteArray) : Nat → Int → Nat → Int × Int × Int
  | 0, _, _ => if (s.size : Int) < 10 then (0, 0, 3) else (0, 0, 4)
  | d + 1, u, i => if bt s i ≥ 128 then rdl s d (acc u (bt s i) i) (i + 1) else
      if (P (unfold_ (acc u (bt s i) i))).toList = (s.extract 0 (i + 1)).toList then (unfold_ (acc u (bt s i) i), (i : Int) + 1, 0) else (0, 0, 4)

def R (s : ByteArray) : Int × Int × Int := rdl s (min s.size 10) 0 0

theorem read_l0 (s : ByteArray) (hs : s.size ≤ 9223372036854775807) : ∀ (d k : Nat) (u : Int) (i : Nat), i + d = min s.size 10 → d + 11 ≤ k → 0 ≤ u → u < 18446744073709551616 →
    vint_read.l0 k s u (mn (s.size : Int) 10) i = some (rdl s d u i)
  | _, 0, _, _, _, h, _, _ => by omega
  | 0, k + 1, u, i, he, hk, h0, h1 => by
    simp only [vint_read.l0, rdl]
    rw [if_neg (by unfold mn; split <;> omega)]
    split <;> rfl
  | d + 1, k + 1, u, i, he, hk, h0, h1 => by
    have hlt : (i : Int) < mn (s.size : Int) 10 := by unfold mn; split <;> omega
    have hw : wrap64 (7 * (i : Int)) = 7 * (i : Int) := by unfold wrap64; omega
    have hw1 : wrap64 ((i : Int) + 1) = (i : Int) + 1 := by unfold wrap64; omega
    have ha := acc_range u (bt s i) i
    simp only [vint_read.l0, rdl]
    rw [if_pos hlt, if_pos (by omega), if_pos (by omega), hw, if_pos (by omega)]
    by_cases hb : bt s i ≥ 128
    · rw [if_pos hb, if_pos hb, hw1]
      exact read_l0 s hs d k _ (i + 1) (by omega) (by omega) ha.1 ha.2
    · rw [if_neg hb, if_neg hb, hw1]
      have hu := unfold_range _ ha.1 ha.2
      have e := unfold_eq _ ha.1 ha.2
      unfold acc at e hu ⊢
      rw [e, put k _ hu (by omega), Option.bind_some, if_pos (by omega), if_pos (by omega)]
      rw [show ((i : Int) + 1).toNat = i + 1 by omega]
      split <;> rfl

theorem read (k : Nat) (s : ByteArray) (hs : s.size ≤ 9223372036854775807) (hk : 21 ≤ k) : vint_read.f k s = some (R s) := by
  unfold vint_read.f R
  exact read_l0 s hs (min s.size 10) k 0 0 (by omega) (by omega) (by omega) (by omega)

/-- What a reading that goes well says. -/
theorem rdl_ok (s : ByteArray) : ∀ (d : Nat) (u : Int) (i : Nat), i + d = min s.size 10 →
    ((rdl s d u i).2.2 = 0 ∧ I64 (rdl s d u i).1 ∧ (i : Int) < (rdl s d u i).2.1 ∧ (rdl s d u i).2.1 ≤ s.size ∧ (rdl s d u i).2.1 ≤ 10) ∨
    ((rdl s d u i).1 = 0 ∧ (rdl s d u i).2.1 = 0 ∧ ((rdl s d u i).2.2 = 3 ∨ (rdl s d u i).2.2 = 4))
  | 0, u, i, h => by
    simp only [rdl]; split <;> simp
  | d + 1, u, i, h => by
    have ha := acc_range u (bt s i) i
    simp only [rdl]
    split
    · rcases rdl_ok s d (acc u (bt s i) i) (i + 1) (by omega) with ⟨h1, h2, h3, h4, h5⟩ | h
      · exact .inl ⟨h1, h2, by omega, h4, h5⟩
      · exact .inr h
    · split
      · have hu := unfold_range _ ha.1 ha.2
        refine .inl ⟨rfl, hu, ?_, ?_, ?_⟩ <;> simp <;> omega
      · simp

theorem R_ok (s : ByteArray) : ((R s).2.2 = 0 ∧ I64 (R s).1 ∧ 1 ≤ (R s).2.1 ∧ (R s).2.1 ≤ s.size ∧ (R s).2.1 ≤ 10) ∨ ((R s).1 = 0 ∧ (R s).2.1 = 0 ∧ ((R s).2.2 = 3 ∨ (R s).2.2 = 4)) := by
  rcases rdl_ok s (min s.size 10) 0 0 (by omega) with ⟨h1, h2, h3, h4, h5⟩ | h
  · exact .inl ⟨h1, h2, by unfold R; omega, h4, h5⟩
  · exact .inr h

theorem rdl_enc (s : ByteArray) : ∀ (f d i : Nat) (u u' : Int), 0 ≤ u → u < 2 ^ (7 * i) → 0 ≤ u' → u' < 128 ^ (f + 1) → u + u' * 2 ^ (7 * i) < 18446744073709551616 → f + i ≤ 9 →
    (enc f u').length ≤ d → (∀ j, j < (enc f u').length → bt s ((i + j : Nat) : Int) = (enc f u').getD j 0) →
    rdl s d u i = if (P (unfold_ (u + u' * 2 ^ (7 * i)))).toList = (s.extract 0 (i + (enc f u').length)).toList then (unfold_ (u + u' * 2 ^ (7 * i)), ((i + (enc f u').length : Nat) : Int), 0) else (0, 0, 4)
  | 0, 0, i, u, u', _, _, _, _, _, _, hd, _ => by simp [enc] at hd
  | f + 1, 0, i, u, u', _, _, _, _, _, _, hd, _ => by have := enc_length (f + 1) u'; omega
  | 0, d + 1, i, u, u', hu0, hu, h0, h1, hb, hf, hd, hg => by
    have hp := pow_pos' (7 * i)
    have e0 : enc 0 u' = [u'] := by simp only [enc]; rw [show u' % 256 = u' by omega]
    rw [e0] at hg hd ⊢
    have hbt : bt s i = u' := by have := hg 0 (by simp); simpa using this
    have hm : u' % 128 = u' := by omega
    have hacc : acc u u' i = u + u' * 2 ^ (7 * i) := by
      rw [acc_eq u u' i (by omega) h0 (by omega) hu0 hu (by rw [hm]; omega), hm]
    simp only [rdl]
    rw [hbt, if_neg (by omega), hacc]
    simp
  | f + 1, d + 1, i, u, u', hu0, hu, h0, h1, hb, hf, hd, hg => by
    have hp := pow_pos' (7 * i)
    by_cases h : u' ≥ 128
    · have e0 : enc (f + 1) u' = (u' % 128 + 128) :: enc f (u' / 128) := by simp only [enc]; rw [if_pos h]
      rw [e0] at hg hd ⊢
      have hbt : bt s i = u' % 128 + 128 := by have := hg 0 (by simp); simpa using this
      have hm : (u' % 128 + 128) % 128 = u' % 128 := by omega
      have hsplit : u' * 2 ^ (7 * i) = (u' % 128) * 2 ^ (7 * i) + (u' / 128) * 2 ^ (7 * (i + 1)) := by
        rw [show 7 * (i + 1) = 7 * i + 7 by omega, Int.pow_add, show (2 : Int) ^ 7 = 128 from by decide]
        conv => lhs; rw [show u' = u' % 128 + u' / 128 * 128 by omega, Int.add_mul]
        rw [Int.mul_assoc, Int.mul_comm 128]
      have hq : 0 ≤ (u' / 128) * 2 ^ (7 * (i + 1)) := Int.mul_nonneg (by omega) (by have := pow_pos' (7 * (i + 1)); omega)
      have hmul : (u' % 128) * 2 ^ (7 * i) ≤ 127 * 2 ^ (7 * i) := Int.mul_le_mul_of_nonneg_right (by omega) (by omega)
      have hacc : acc u (u' % 128 + 128) i = u + (u' % 128) * 2 ^ (7 * i) := by
        rw [acc_eq u _ i (by omega) (by omega) (by omega) hu0 hu (by rw [hm]; omega), hm]
      have hnn : 0 ≤ (u' % 128) * 2 ^ (7 * i) := Int.mul_nonneg (by omega) (by omega)
      have hpow : (2 : Int) ^ (7 * (i + 1)) = 128 * 2 ^ (7 * i) := by
        rw [show 7 * (i + 1) = 7 * i + 7 by omega, Int.pow_add, show (2 : Int) ^ 7 = 128 from by decide]; omega
      simp only [rdl]
      rw [hbt, if_pos (by omega), hacc]
      have ih := rdl_enc s f d (i + 1) (u + (u' % 128) * 2 ^ (7 * i)) (u' / 128) (by omega) (by rw [hpow]; omega) (by omega) (by rw [Int.pow_succ] at h1; omega) (by omega) (by omega) (by simpa using hd)
        (fun j hj => by have := hg (j + 1) (by simpa using hj); rw [show i + (j + 1) = i + 1 + j by omega] at this; simpa using this)
      rw [ih, show u + u' % 128 * 2 ^ (7 * i) + u' / 128 * 2 ^ (7 * (i + 1)) = u + u' * 2 ^ (7 * i) by omega]
      simp only [List.length_cons]
      rw [show i + 1 + (enc f (u' / 128)).length = i + ((enc f (u' / 128)).length + 1) by omega]
    · have e0 : enc (f + 1) u' = [u'] := by simp only [enc]; rw [if_neg h, show u' % 256 = u' by omega]
      rw [e0] at hg hd ⊢
      have hbt : bt s i = u' := by have := hg 0 (by simp); simpa using this
      have hm : u' % 128 = u' := by omega
      have hacc : acc u u' i = u + u' * 2 ^ (7 * i) := by
        rw [acc_eq u u' i (by omega) h0 (by omega) hu0 hu (by rw [hm]; omega), hm]
      simp only [rdl]
      rw [hbt, if_neg (by omega), hacc]
      simp

theorem bt_append (a b : ByteArray) (j : Nat) (h : j < a.size) : bt (a ++ b) j = bt a j := by
  unfold bt
  simp only [Int.toNat_natCast]
  rw [dif_pos (by rw [ByteArray.size_append]; omega), dif_pos h, ByteArray.getElem_append_left h]

theorem bt_strOfNums (l : List Int) (hl : ∀ x ∈ l, 0 ≤ x ∧ x < 256) (j : Nat) (h : j < l.length) : bt (strOfNums l) j = l.getD j 0 := by
  unfold bt
  simp only [Int.toNat_natCast]
  rw [dif_pos (by rw [strOfNums_size]; exact h)]
  have hm := hl l[j] (List.getElem_mem h)
  have e : (strOfNums l)[j]'(by rw [strOfNums_size]; exact h) = UInt8.ofNat (l[j]).toNat := by
    show ((l.map fun n => UInt8.ofNat n.toNat).toArray)[j]'(by simpa using h) = _
    simp
  rw [e]
  simp [List.getD, List.getElem?_eq_getElem h]
  omega

theorem bt_extract (s : ByteArray) (a b j : Nat) (h : a + j < b) (hb : b ≤ s.size) : bt (s.extract a b) j = bt s ((a + j : Nat) : Int) := by
  unfold bt
  simp only [Int.toNat_natCast]
  rw [dif_pos (by rw [ByteArray.size_extract]; omega), dif_pos (by omega), ByteArray.getElem_extract]

theorem toList_inj {a b : ByteArray} (h : a.toList = b.toList) : a = b := by
  rw [Go.Lib.toList_data, Go.Lib.toList_data] at h
  exact Go.WideShapes.bytes_inj h

theorem extract_left (a b : ByteArray) : (a ++ b).extract 0 a.size = a := by
  rw [ByteArray.extract_append]; simp

/-- What was put is told again. -/
theorem R_put (n : Int) (hn : I64 n) (rest : ByteArray) : R (P n ++ rest) = (n, ((P n).size : Int), 0) := by
  have hr := fold_range n hn.1 hn.2
  have hs := P_size n
  have hen : (enc 9 (fold n)).length = (P n).size := by unfold P; rw [strOfNums_size]
  unfold R
  rw [rdl_enc (P n ++ rest) 9 _ 0 0 (fold n) (by omega) (by simp) hr.1 (by omega) (by simpa using hr.2) (by omega)
    (by rw [hen, ByteArray.size_append]; omega)
    (fun j hj => by
      rw [hen] at hj
      rw [show (0 + j : Nat) = j by omega, bt_append _ _ _ hj]
      unfold P at hj ⊢
      rw [strOfNums_size] at hj
      exact bt_strOfNums _ (enc_bytes 9 _ hr.1) j hj)]
  simp only [Nat.mul_zero, Int.pow_zero, Int.mul_one, Int.zero_add, Nat.zero_add, unfold_fold]
  rw [hen, extract_left, if_pos rfl]

/-- Of all bytes but the last one each says that there is one more. -/
theorem enc_more128 : ∀ f u, 0 ≤ u → ∀ j, j + 1 < (enc f u).length → 128 ≤ (enc f u).getD j 0
  | 0, u, h0, j, hj => by simp [enc] at hj
  | f + 1, u, h0, j, hj => by
    simp only [enc] at hj ⊢
    split at hj
    · rename_i h
      rw [if_pos h]
      cases j with
      | zero => simp; omega
      | succ j => simpa using enc_more128 f (u / 128) (by omega) j (by simpa using hj)
    · simp at hj

theorem rdl_all_more (s : ByteArray) : ∀ (d : Nat) (u : Int) (i : Nat), (∀ j, i ≤ j → j < i + d → 128 ≤ bt s j) → rdl s d u i = if (s.size : Int) < 10 then (0, 0, 3) else (0, 0, 4)
  | 0, u, i, h => rfl
  | d + 1, u, i, h => by
    simp only [rdl]
    rw [if_pos (h i (by omega) (by omega))]
    exact rdl_all_more s d _ (i + 1) (fun j h1 h2 => h j (by omega) (by omega))

theorem P_more128 (n : Int) (hn : I64 n) (j : Nat) (h : j + 1 < (P n).size) : 128 ≤ bt (P n) j := by
  have hr := fold_range n hn.1 hn.2
  unfold P at h ⊢
  rw [strOfNums_size] at h
  rw [bt_strOfNums _ (enc_bytes 9 _ hr.1) j (by omega)]
  exact enc_more128 9 _ hr.1 j h

/-- Cut, more is needed. -/
theorem R_cut (n : Int) (hn : I64 n) (c : Nat) (hc : c < (P n).size) : R ((P n).extract 0 c) = (0, 0, 3) := by
  have hs := P_size n
  have he : ((P n).extract 0 c).size = c := by rw [ByteArray.size_extract]; omega
  unfold R
  rw [rdl_all_more _ _ _ _ (fun j h1 h2 => by
    rw [he] at h2
    rw [bt_extract _ _ _ _ (by omega) (by omega)]
    simp only [Nat.zero_add]
    exact P_more128 n hn j (by omega)), he, if_pos (by omega)]

/-! ### Get: what stands at a place -/
def G (s : ByteArray) (at_ : Int) : Int × Int × Int :=
  if at_ < 0 ∨ at_ > (s.size : Int) then (0, 0, 1) else
    if (R (s.extract at_.toNat s.size)).2.2 = 0 then ((R (s.extract at_.toNat s.size)).1, at_ + (R (s.extract at_.toNat s.size)).2.1, 0)
    else (0, 0, (R (s.extract at_.toNat s.size)).2.2)

theorem get (k : Nat) (s : ByteArray) (at_ : Int) (hs : s.size ≤ 140737488355328) (hk : 22 ≤ k) : vint_Get.f k s at_ = some (G s at_) := by
  obtain ⟨k, rfl⟩ : ∃ m, k = m + 1 := ⟨k - 1, by omega⟩
  unfold vint_Get.f vint_placed_int.f G
  by_cases h0 : at_ < 0
  · rw [if_pos h0, if_pos (.inl h0)]; simp only [vint_placed_int.j0, if_true, Option.bind_some]
  · rw [if_neg h0]
    by_cases h1 : at_ > (s.size : Int)
    · rw [if_pos (.inr h1)]; simp [vint_placed_int.j0, h1]
    · rw [if_neg (by omega)]
      have hd : decide (at_ > (s.size : Int)) = false := by simpa using h1
      simp only [vint_placed_int.j0]
      rw [hd, if_neg (by decide), if_pos (by omega), if_pos (by omega)]
      have hes : (s.extract at_.toNat s.size).size ≤ s.size := by rw [ByteArray.size_extract]; omega
      rw [read k _ (by omega) (by omega), Option.bind_some]
      have hok := R_ok (s.extract at_.toNat s.size)
      generalize R (s.extract at_.toNat s.size) = r at *
      rcases hok with ⟨e0, e1, e2, e3, e4⟩ | ⟨e1, e2, e3⟩
      · rw [if_pos e0, if_pos e0, Option.bind_some]
        rw [show wrap64 (at_ + r.2.1) = at_ + r.2.1 by unfold wrap64; omega]
      · rw [if_neg (by omega), if_neg (by omega), Option.bind_some, e1]

theorem G_ok (s : ByteArray) (at_ : Int) (h : (G s at_).2.2 = 0) : I64 (G s at_).1 ∧ 0 ≤ at_ ∧ at_ < (G s at_).2.1 ∧ (G s at_).2.1 ≤ s.size := by
  unfold G at *
  split at h
  · simp at h
  · rename_i hr
    rw [if_neg hr]
    have hes : (s.extract at_.toNat s.size).size = s.size - at_.toNat := by rw [ByteArray.size_extract]; omega
    rcases R_ok (s.extract at_.toNat s.size) with ⟨e0, e1, e2, e3, e4⟩ | ⟨e1, e2, e3⟩
    · rw [if_pos e0]; exact ⟨e1, by omega, by simp; omega, by simp; omega⟩
    · rw [if_neg (by omega)] at h; simp at h; omega

theorem extract_mid (a b c : ByteArray) : (a ++ b ++ c).extract a.size (a ++ b ++ c).size = b ++ c := by
  rw [ByteArray.append_assoc, ByteArray.extract_append, ByteArray.extract_eq_empty_iff.2 (by omega), ByteArray.empty_append]
  rw [Nat.sub_self, ByteArray.size_append, Nat.add_sub_cancel_left, ByteArray.extract_zero_size]

theorem G_put (a : ByteArray) (n : Int) (hn : I64 n) (rest : ByteArray) : G (a ++ P n ++ rest) (a.size : Int) = (n, (a.size : Int) + (P n).size, 0) := by
  unfold G
  have hs : (a ++ P n ++ rest).size = a.size + (P n).size + rest.size := by simp [ByteArray.size_append]
  rw [if_neg (by rw [hs]; omega), Int.toNat_natCast, extract_mid, R_put n hn, if_pos rfl]

/-! ### texts -/
def T (s : ByteArray) : ByteArray × Int × Int :=
  if (R s).2.2 = 0 then
    if (R s).1 < 0 ∨ (R s).1 > 4096 then (⟨#[]⟩, 0, 4)
    else if (s.size : Int) - (R s).2.1 < (R s).1 then (⟨#[]⟩, 0, 3)
    else (s.extract (R s).2.1.toNat ((R s).2.1 + (R s).1).toNat, (R s).2.1 + (R s).1, 0)
  else (⟨#[]⟩, 0, (R s).2.2)

theorem text (k : Nat) (s : ByteArray) (hs : s.size ≤ 140737488355328) (hk : 22 ≤ k) : vint_text.f k s = some (T s) := by
  obtain ⟨k, rfl⟩ : ∃ m, k = m + 1 := ⟨k - 1, by omega⟩
  unfold vint_text.f T
  rw [read (k + 1) s (by omega) (by omega), Option.bind_some]
  have hok := R_ok s
  generalize R s = r at *
  rcases hok with ⟨e0, e1, e2, e3, e4⟩ | ⟨e1, e2, e3⟩
  · rw [if_pos e0, if_pos e0]
    by_cases h0 : r.1 < 0
    · rw [if_pos h0, if_pos (.inl h0)]; simp only [vint_text.j0, if_true]
    · rw [if_neg h0]
      by_cases h1 : r.1 > 4096
      · rw [if_pos (.inr h1)]; simp [vint_text.j0, h1]
      · rw [if_neg (by omega)]
        have hd : decide (r.1 > 4096) = false := by simpa using h1
        simp only [vint_text.j0]
        rw [hd, if_neg (by decide)]
        rw [show wrap64 ((s.size : Int) - r.2.1) = (s.size : Int) - r.2.1 by unfold wrap64; omega, show wrap64 (r.2.1 + r.1) = r.2.1 + r.1 by unfold wrap64; omega]
        by_cases h2 : (s.size : Int) - r.2.1 < r.1
        · rw [if_pos h2, if_pos h2]
        · rw [if_neg h2, if_neg h2, if_pos (by omega), if_pos (by omega), if_pos (by omega)]
  · rw [if_neg (by omega), if_neg (by omega)]

def GT (s : ByteArray) (at_ : Int) : ByteArray × Int × Int :=
  if at_ < 0 ∨ at_ > (s.size : Int) then (⟨#[]⟩, 0, 1) else
    if (T (s.extract at_.toNat s.size)).2.2 = 0 then ((T (s.extract at_.toNat s.size)).1, at_ + (T (s.extract at_.toNat s.size)).2.1, 0)
    else (⟨#[]⟩, 0, (T (s.extract at_.toNat s.size)).2.2)

theorem T_ok (s : ByteArray) : ((T s).2.2 = 0 ∧ 1 ≤ (T s).2.1 ∧ (T s).2.1 ≤ s.size) ∨ ((T s).1 = ⟨#[]⟩ ∧ (T s).2.1 = 0 ∧ ((T s).2.2 = 3 ∨ (T s).2.2 = 4)) := by
  unfold T
  rcases R_ok s with ⟨e0, e1, e2, e3, e4⟩ | ⟨e1, e2, e3⟩
  · rw [if_pos e0]
    split
    · simp
    · split
      · simp
      · refine .inl ⟨rfl, ?_, ?_⟩ <;> simp <;> omega
  · rw [if_neg (by omega)]; simp; exact e3

theorem getText (k : Nat) (s : ByteArray) (at_ : Int) (hs : s.size ≤ 140737488355328) (hk : 23 ≤ k) : vint_GetText.f k s at_ = some (GT s at_) := by
  obtain ⟨k, rfl⟩ : ∃ m, k = m + 1 := ⟨k - 1, by omega⟩
  unfold vint_GetText.f vint_placed_string.f GT
  by_cases h0 : at_ < 0
  · rw [if_pos h0, if_pos (.inl h0)]; simp only [vint_placed_string.j0, if_true, Option.bind_some]
  · rw [if_neg h0]
    by_cases h1 : at_ > (s.size : Int)
    · rw [if_pos (.inr h1)]; simp [vint_placed_string.j0, h1]
    · rw [if_neg (by omega)]
      have hd : decide (at_ > (s.size : Int)) = false := by simpa using h1
      simp only [vint_placed_string.j0]
      rw [hd, if_neg (by decide), if_pos (by omega), if_pos (by omega)]
      have hes : (s.extract at_.toNat s.size).size ≤ s.size := by rw [ByteArray.size_extract]; omega
      rw [text k _ (by omega) (by omega), Option.bind_some]
      have hok := T_ok (s.extract at_.toNat s.size)
      generalize T (s.extract at_.toNat s.size) = r at *
      rcases hok with ⟨e0, e2, e3⟩ | ⟨e1, e2, e3⟩
      · rw [if_pos e0, if_pos e0, Option.bind_some]
        rw [show wrap64 (at_ + r.2.1) = at_ + r.2.1 by unfold wrap64; omega]
      · rw [if_neg (by omega), if_neg (by omega), Option.bind_some, e1]

/-- A text in bytes. -/
def TX (t : ByteArray) : ByteArray := P (t.size : Int) ++ t

theorem T_text (t rest : ByteArray) (ht : t.size ≤ 4096) : T (TX t ++ rest) = (t, ((TX t).size : Int), 0) := by
  have hn : I64 (t.size : Int) := ⟨by omega, by omega⟩
  unfold T
  have e : TX t ++ rest = P (t.size : Int) ++ (t ++ rest) := by unfold TX; rw [ByteArray.append_assoc]
  have hs : (TX t ++ rest).size = (P (t.size : Int)).size + t.size + rest.size := by rw [e]; simp [ByteArray.size_append]; omega
  have h2 : (TX t).size = (P (t.size : Int)).size + t.size := by unfold TX; rw [ByteArray.size_append]
  rw [hs, h2, e, R_put _ hn]
  simp only [if_true]
  rw [if_neg (by omega), if_neg (by omega)]
  rw [Int.toNat_natCast, show (((P (t.size : Int)).size : Int) + (t.size : Int)).toNat = (P (t.size : Int)).size + t.size by omega]
  rw [ByteArray.extract_append, ByteArray.extract_eq_empty_iff.2 (by omega), ByteArray.empty_append, Nat.sub_self, Nat.add_sub_cancel_left, extract_left, Int.natCast_add]

theorem GT_text (a t rest : ByteArray) (ht : t.size ≤ 4096) : GT (a ++ TX t ++ rest) (a.size : Int) = (t, (a.size : Int) + (TX t).size, 0) := by
  unfold GT
  have hs : (a ++ TX t ++ rest).size = a.size + (TX t).size + rest.size := by simp [ByteArray.size_append]
  rw [if_neg (by rw [hs]; omega), Int.toNat_natCast, extract_mid, T_text t rest ht, if_pos rfl]

/-- The document's example. -/
theorem awake (k : Nat) (hk : 22 ≤ k) : boomeranglaw1_awake.f k = some true := by
  have e1 : P (-1) = ⟨#[1]⟩ := by decide +kernel
  have e2 : G (⟨#[1]⟩ : ByteArray) 0 = (-1, 1, 0) := by
    have := G_put ⟨#[]⟩ (-1) ⟨by omega, by omega⟩ ⟨#[]⟩
    rw [e1] at this
    exact this
  unfold boomeranglaw1_awake.f
  rw [get k _ 0 (by decide) hk, e2, Option.bind_some, put k (-1) ⟨by omega, by omega⟩ (by omega), e1, Option.bind_some]
  rw [if_pos (by rw [Go.Lib.toList_data])]
  rfl
end Go.Proofs.Ytnincfdfobaooaa.VM
