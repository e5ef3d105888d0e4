/- Plain facts of the bit operations that vint uses: folding a number, seven bits at a time. -/
import Derived.Test.YtnincfdfobaooaaWMore
import Derived.Laws.BitsLemmas
namespace Go.Proofs.Ytnincfdfobaooaa.VB
open Go.RowKit Go.Proofs.YtnincfdfobaooaaW.PrintWords Go.Proofs.YtnincfdfobaooaaW.PrintLast Go.Proofs.YtnincfdfobaooaaW.PrintMore

theorem wrap_u64 (n : Int) : IntKind.u64.wrap n = n % 18446744073709551616 := by simp [IntKind.wrap, IntKind.bits, IntKind.signed]
theorem wraps_u64 (n : Int) (h₀ : 0 ≤ n) (h₁ : n < 2 ^ 64) : IntKind.u64.wrap n = n := by rw [wrap_u64]; omega

theorem or_comm (k : IntKind) (x y : Int) : Go.bits .or k x y = Go.bits .or k y x := by
  unfold Go.bits; simp only [BitVec.or_comm]

theorem or128n : ∀ a : Fin 256, (a.val ||| 128) = a.val % 128 + 128 := by decide +kernel

theorem or128 (x : Int) (h0 : 0 ≤ x) (h1 : x < 256) : Go.bits .or .u8 x 128 = x % 128 + 128 := by
  obtain ⟨a, rfl⟩ := Int.eq_ofNat_of_zero_le h0
  have ha : a < 256 := by omega
  have := (bits_nat .u8 8 (by decide) wraps_u8 a 128 (by omega) (by decide)).2
  have h2 := or128n ⟨a, ha⟩
  simp only at h2
  rw [show ((128 : Int)) = ((128 : Nat) : Int) from rfl, this, h2]
  omega

theorem and127 (x : Int) (h0 : 0 ≤ x) (h1 : x < 256) : Go.bits .and .u8 x 127 = x % 128 :=
  bits_mask .u8 8 (by decide) wraps_u8 7 (by decide) x h0 h1

theorem and1 (x : Int) (h0 : 0 ≤ x) (h1 : x < 18446744073709551616) : Go.bits .and .u64 x 1 = x % 2 :=
  bits_mask .u64 64 (by decide) wraps_u64 1 (by decide) x h0 h1

theorem or_join (i : Nat) (x y : Int) (hx₀ : 0 ≤ x) (hx : x % 2 ^ i = 0) (hx₁ : x < 18446744073709551616) (hy₀ : 0 ≤ y) (hy : y < 2 ^ i) (hy₁ : y < 18446744073709551616) :
    Go.bits .or .u64 y x = x + y := by
  rw [or_comm]; exact bits_join .u64 64 (by decide) wraps_u64 i x y hx₀ hx hx₁ hy₀ hy hy₁

theorem xor_zero (k : IntKind) (x : Int) (h : k.wrap ((BitVec.ofInt k.bits x).toNat) = x) : Go.bits .xor k x 0 = x := by
  show k.wrap ((BitVec.ofInt k.bits x ^^^ BitVec.ofInt k.bits 0).toNat) = x
  rw [show BitVec.ofInt k.bits 0 = 0#k.bits from by simp, BitVec.xor_zero]; exact h

theorem i64_back (x : Int) (h0 : -9223372036854775808 ≤ x) (h1 : x < 9223372036854775808) : IntKind.i64.wrap ((BitVec.ofInt 64 x).toNat) = x := by
  rw [BitVec.toNat_ofInt, IntKind.wrap_i64]; omega
theorem u64_back (x : Int) (h0 : 0 ≤ x) (h1 : x < 18446744073709551616) : IntKind.u64.wrap ((BitVec.ofInt 64 x).toNat) = x := by
  rw [BitVec.toNat_ofInt, wrap_u64]; omega

theorem xor_ones64 (x : BitVec 64) : x ^^^ BitVec.allOnes 64 = ~~~x := BitVec.xor_allOnes

theorem xor_neg1_i64 (x : Int) (h0 : -9223372036854775808 ≤ x) (h1 : x < 9223372036854775808) : Go.bits .xor .i64 x (-1) = - x - 1 := by
  show IntKind.i64.wrap ((BitVec.ofInt 64 x ^^^ BitVec.ofInt 64 (-1)).toNat) = _
  rw [show BitVec.ofInt 64 (-1) = BitVec.allOnes 64 from by decide, xor_ones64]
  rw [BitVec.toNat_not, BitVec.toNat_ofInt, IntKind.wrap_i64]; omega
theorem xor_ones_u64 (x : Int) (h0 : 0 ≤ x) (h1 : x < 18446744073709551616) : Go.bits .xor .u64 x 18446744073709551615 = 18446744073709551615 - x := by
  show IntKind.u64.wrap ((BitVec.ofInt 64 x ^^^ BitVec.ofInt 64 18446744073709551615).toNat) = _
  rw [show BitVec.ofInt 64 18446744073709551615 = BitVec.allOnes 64 from by decide, xor_ones64]
  rw [BitVec.toNat_not, BitVec.toNat_ofInt, wrap_u64]; omega

/-- A number by its size. -/
def fold (n : Int) : Int := if n < 0 then -2 * n - 1 else 2 * n
/-- And back. -/
def unfold_ (u : Int) : Int := if u % 2 = 1 then - (u / 2) - 1 else u / 2

theorem fold_eq (n : Int) (h0 : -9223372036854775808 ≤ n) (h1 : n < 9223372036854775808) :
    Go.bits .xor .u64 (IntKind.u64.wrap ((IntKind.u64.wrap n) * 2)) (IntKind.u64.wrap (n / 9223372036854775808)) = fold n := by
  unfold fold
  by_cases h : n < 0
  · rw [if_pos h]
    have e1 : n / 9223372036854775808 = -1 := by omega
    rw [e1]
    have e2 : IntKind.u64.wrap (-1) = 18446744073709551615 := by rw [wrap_u64]; rfl
    rw [e2, xor_ones_u64 _ (by rw [wrap_u64]; omega) (by rw [wrap_u64]; omega), wrap_u64, wrap_u64]
    omega
  · rw [if_neg h]
    have e1 : n / 9223372036854775808 = 0 := by omega
    rw [e1]
    have e2 : IntKind.u64.wrap 0 = 0 := by rw [wrap_u64]; rfl
    rw [e2, xor_zero _ _ (u64_back _ (by rw [wrap_u64]; omega) (by rw [wrap_u64]; omega)), wrap_u64, wrap_u64]
    omega

theorem unfold_eq (u : Int) (h0 : 0 ≤ u) (h1 : u < 18446744073709551616) :
    Go.bits .xor .i64 (wrap64 (u / 2)) (wrap64 (-(wrap64 (Go.bits .and .u64 u 1)))) = unfold_ u := by
  rw [and1 u h0 h1]
  have e0 : wrap64 (u / 2) = u / 2 := by unfold wrap64; omega
  rw [e0]
  unfold unfold_
  by_cases h : u % 2 = 1
  · rw [if_pos h, h]
    have : wrap64 (-(wrap64 1)) = -1 := by unfold wrap64; omega
    rw [this, xor_neg1_i64 _ (by omega) (by omega)]
  · rw [if_neg h]
    have h' : u % 2 = 0 := by omega
    rw [h']
    have : wrap64 (-(wrap64 0)) = 0 := by unfold wrap64; omega
    rw [this, xor_zero _ _ (i64_back _ (by omega) (by omega))]

theorem fold_range (n : Int) (h0 : -9223372036854775808 ≤ n) (h1 : n < 9223372036854775808) : 0 ≤ fold n ∧ fold n < 18446744073709551616 := by
  unfold fold; split <;> omega
theorem unfold_range (u : Int) (h0 : 0 ≤ u) (h1 : u < 18446744073709551616) : -9223372036854775808 ≤ unfold_ u ∧ unfold_ u < 9223372036854775808 := by
  unfold unfold_; split <;> omega
theorem unfold_fold (n : Int) : unfold_ (fold n) = n := by
  unfold unfold_ fold; split <;> split <;> omega
theorem fold_unfold (u : Int) (h0 : 0 ≤ u) : fold (unfold_ u) = u := by
  unfold unfold_ fold; split <;> split <;> omega

/-- The bytes of a number that was folded. -/
def enc : Nat → Int → List Int
  | 0, u => [u % 256]
  | f + 1, u => if u ≥ 128 then (u % 128 + 128) :: enc f (u / 128) else [u % 256]

theorem enc_length : ∀ f u, 1 ≤ (enc f u).length ∧ (enc f u).length ≤ f + 1
  | 0, u => by simp [enc]
  | f + 1, u => by
    have := enc_length f (u / 128)
    simp only [enc]; split
    · simp; omega
    · simp

/-- More rounds: the same bytes. -/
theorem enc_more : ∀ f u, 0 ≤ u → u < 128 ^ (f + 1) → enc (f + 1) u = enc f u
  | 0, u, h0, h1 => by simp only [enc]; rw [if_neg (by omega)]
  | f + 1, u, h0, h1 => by
    rw [enc]; conv => rhs; rw [enc]
    split
    · rw [enc_more f (u / 128) (by omega) (by rw [Int.pow_succ] at h1; omega)]
    · rfl

theorem enc_bytes : ∀ f u, 0 ≤ u → ∀ x ∈ enc f u, 0 ≤ x ∧ x < 256
  | 0, u, h0, x, hx => by simp [enc] at hx; omega
  | f + 1, u, h0, x, hx => by
    simp only [enc] at hx
    split at hx
    · rcases List.mem_cons.1 hx with rfl | h
      · omega
      · exact enc_bytes f _ (by omega) x h
    · simp at hx; omega
end Go.Proofs.Ytnincfdfobaooaa.VB
