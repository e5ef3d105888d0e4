/- Words and signs: walked. -/
import Derived.Test.YticbjhicjegfoaaQt1
import Derived.Test.YticbjhicjegfoaaQw
namespace Go.Proofs.Yticbjhicjegfoaa.Q
open Go.RowKit
open Go.Proofs.YticbjhicjegfoaaW.PrintWords

def wordsT : List ByteArray := wordsL.map bytesOf
def signsT : List ByteArray := signsL.map bytesOf
theorem any_in (s : ByteArray) : wordsT.any (fun x => beqB x s) = inL wordsL s.data.toList := by
  unfold wordsT inL beqB
  rw [List.any_map]
  rfl
section
variable {w : World}
set_option maxRecDepth 100000 in
set_option maxHeartbeats 1600000 in
theorem words_c : Calls Try.prog 60 #[] w fun e w' => ∃ b, e = .returned (.slice (some ⟨b, 0, none⟩) wordsT.length wordsT.length) ∧ TextsAt w' b wordsT ∧ Below w.heap.size w w' := by
  go_enter Try.func60, Try.ntmps60
  go_wp2_with fail
  go_ret
  exact ⟨w.heap.size, rfl, texts_new w wordsT _, (Below.refl _ _).alloc (Nat.le_refl _) _⟩
set_option maxRecDepth 100000 in
set_option maxHeartbeats 1600000 in
theorem signs_c : Calls Try.prog 48 #[] w fun e w' => ∃ b, e = .returned (.slice (some ⟨b, 0, none⟩) signsT.length signsT.length) ∧ TextsAt w' b signsT ∧ Below w.heap.size w w' ∧ w.heap.size ≤ b := by
  go_enter Try.func48, Try.ntmps48
  go_wp2_with fail
  go_ret
  exact ⟨w.heap.size, rfl, texts_new w signsT _, (Below.refl _ _).alloc (Nat.le_refl _) _, Nat.le_refl _⟩
set_option maxRecDepth 100000 in
theorem isWord_c (s : ByteArray) : Calls Try.prog 47 #[.string s] w fun e w' => e = .returned (.bool (inL wordsL s.data.toList)) ∧ Below w.heap.size w w' := by
  have HW := hid (any_in s)
  go_enter Try.func47, Try.ntmps47
  go_wp2_with fail
  refine (words_c).mono ?_
  rintro e w1 ⟨b, rfl, hT, hB⟩
  go_wp2_with fail
  refine (in_rc hT (by decide) s).mono ?_
  rintro e w2 ⟨rfl, rfl⟩
  go_wp2_with fail
  go_ret
  exact ⟨ret_bool HW.out.symm, hB⟩
end
end Go.Proofs.Yticbjhicjegfoaa.Q
