/- A token's place and end. -/
import Derived.Test.YticbjhicjegfoaaQa
namespace Go.Proofs.Yticbjhicjegfoaa.Q
open Go.RowKit

theorem blanks_len (c : Bool) (l : List UInt8) (ln : Bool) (n : Nat) : (blanksL c l ln n).2.2 + (blanksL c l ln n).1.length = n + l.length := by
  fun_induction blanksL c l ln n <;> (try simp_all) <;> (try omega)
theorem blanks_le (c : Bool) (l : List UInt8) (ln : Bool) (n : Nat) : n ≤ (blanksL c l ln n).2.2 := by
  fun_induction blanksL c l ln n <;> (try simp_all) <;> (try omega)
theorem digits_len (l : List UInt8) (v n : Nat) : (digitsL l v n).2.1 + (digitsL l v n).2.2.length = n + l.length := by
  fun_induction digitsL l v n <;> (try simp_all) <;> (try omega)
theorem digits_le (l : List UInt8) (v n : Nat) : n ≤ (digitsL l v n).2.1 := by
  fun_induction digitsL l v n <;> (try simp_all) <;> (try omega)
theorem word_le (l : List UInt8) (n : Nat) : n ≤ wordL l n ∧ wordL l n ≤ n + l.length := by
  fun_induction wordL l n <;> (try simp_all) <;> (try omega)
theorem quoted_le (l b : List UInt8) (n : Nat) : n ≤ (quotedL l b n).2 ∧ (quotedL l b n).2 ≤ n + l.length := by
  fun_induction quotedL l b n <;> (try simp_all) <;> (try omega)
theorem head_len : ∀ {x l : List UInt8}, headL x l = true → x.length ≤ l.length
  | [], _, _ => Nat.zero_le _
  | a :: x, [], h => by simp [headL] at h
  | a :: x, b :: l, h => by
    simp only [headL, Bool.and_eq_true] at h
    have := head_len h.2
    simp; omega
theorem sign_mem : ∀ {L : List (List UInt8)} {r x : List UInt8}, signL L r = some x → x ∈ L ∧ headL x r = true
  | [], _, _, h => by simp [signL] at h
  | y :: L, r, x, h => by
    unfold signL at h
    split at h
    · rename_i h1
      injection h with h
      subst h
      exact ⟨List.mem_cons_self, h1⟩
    · have := sign_mem h
      exact ⟨List.mem_cons_of_mem _ this.1, this.2⟩
theorem signs_pos : ∀ x ∈ signsL, 1 ≤ x.length := by decide
/-- A token lies behind its blanks, and ends in its text; one that is a token has a byte. -/
theorem tokL_fits (r : List UInt8) (ln : Bool) (n : Nat) : (tokL r ln n).1.at_ = n ∧ n ≤ (tokL r ln n).2 ∧ (tokL r ln n).2 ≤ n + r.length ∧ (((tokL r ln n).1.kind = 0 ∨ (tokL r ln n).1.kind = 6) ∨ n < (tokL r ln n).2) := by
  unfold tokL
  split
  · simp
  · rename_i c r'
    split
    · rename_i hd
      have h1 := digits_len (c :: r') 0 0
      have h2 : 1 ≤ (digitsL (c :: r') 0 0).2.1 := by
        unfold digitsL
        rw [if_pos hd]
        exact digits_le _ _ _
      split
      rename_i v k rest heq
      rw [heq] at h1 h2
      simp only at h1 h2
      simp only [List.length_cons] at h1 ⊢
      cases rest <;> simp only <;> split <;> exact ⟨rfl, by simp only; omega, by simp only; omega, .inr (by simp only; omega)⟩
    · split
      · have h1 := quoted_le r' [] (n + 1)
        split
        · rename_i e heq
          rw [heq] at h1
          simp only at h1
          simp; omega
        · rename_i b e heq
          rw [heq] at h1
          simp only at h1
          simp; omega
      · split
        · rename_i hl
          have h1 := word_le (c :: r') 0
          have h2 : 1 ≤ wordL (c :: r') 0 := by
            unfold wordL
            rw [hl, Bool.true_or, if_pos rfl]
            exact (word_le _ _).1
          simp only
          refine ⟨trivial, ?_⟩
          generalize wordL (c :: r') 0 = k at h1 h2
          refine ⟨by omega, by omega, .inr (by omega)⟩
        · split
          · rename_i x hx
            have h1 := sign_mem hx
            have h2 := head_len h1.2
            have h3 := signs_pos _ h1.1
            refine ⟨rfl, ?_, ?_, .inr ?_⟩
            · simp
            · simp only; omega
            · simp only; omega
          · simp
theorem tok_fits (src : ByteArray) (n : Nat) (hn : n ≤ src.size) : n ≤ (tok src n).1.at_ ∧ (tok src n).1.at_ ≤ (tok src n).2 ∧ (tok src n).2 ≤ src.size ∧ (((tok src n).1.kind = 0 ∨ (tok src n).1.kind = 6) ∨ (tok src n).1.at_ < (tok src n).2) := by
  unfold tok
  have h1 := blanks_len false (src.data.toList.drop n) false n
  have h2 := blanks_le false (src.data.toList.drop n) false n
  split
  rename_i r ln m heq
  rw [heq] at h1 h2
  simp only [List.length_drop] at h1 h2
  obtain ⟨h3, h4, h5, h6⟩ := tokL_fits r ln m
  have h7 : src.data.toList.length = src.size := Array.length_toList
  rw [h7] at h1
  exact ⟨by omega, by omega, by omega, h6.imp id (fun h => by omega)⟩
end Go.Proofs.Yticbjhicjegfoaa.Q
