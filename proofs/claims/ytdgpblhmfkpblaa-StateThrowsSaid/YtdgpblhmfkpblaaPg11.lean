/- Contract of New. -/
import Derived.Test.YtdgpblhmfkpblaaPg10
namespace Go.Proofs.Ytdgpblhmfkpblaa.Pg
open Go.RowKit

/-- A family of one book without cells. -/
def fresh (f b : Nat) : FD := { fam := f, live := 0, pg := fun _ => none, bk := upd (fun _ => none) b { sl := .slice none 0 0, pgs := [], n := 0, gone := false } }

theorem fresh_bk {f b k : Nat} {K : BkD} (h : (fresh f b).bk k = some K) : k = b ∧ K = { sl := .slice none 0 0, pgs := [], n := 0, gone := false } := by
  rcases upd_cases (f := fun _ => none) (k := b) (x := k) (y := K) h with h | ⟨_, h⟩
  · exact h
  · simp at h

theorem fresh_fam {B : Bd} {w : World} (hB : B ≤ w.heap.size) (hX : ∀ k, B.X k → k < w.heap.size) : Fam B ((w.alloc (.cells #[.int .i64 0] 174)).alloc (.cells #[ptr w.heap.size, .slice none 0 0, .int .i64 0, .bool false] 171)) (fresh w.heap.size (w.heap.size + 1)) := by
  have e1 : (w.alloc (.cells #[.int .i64 0] 174)).heap.size = w.heap.size + 1 := by simp
  refine ⟨hB, ?_, fun k P hP => by simp [fresh] at hP, fun k K hK => ?_, fun k k' P P' g hP => by simp [fresh] at hP, fun k k' K K' g hK hK' hg => ?_, fun k hk => by have := hX k hk; simp; omega⟩
  · show ((w.alloc (.cells #[.int .i64 0] 174)).alloc _).heap[w.heap.size]? = _
    rw [heap_alloc_old _ _ (by omega), heap_alloc_new]
    rfl
  · obtain ⟨rfl, rfl⟩ := fresh_bk hK
    refine ⟨by omega, ?_, ⟨rfl, .inl ⟨rfl, rfl⟩⟩⟩
    rw [← e1, heap_alloc_new]
    rfl
  · obtain ⟨rfl, rfl⟩ := fresh_bk hK
    simp [Value.ownBlock] at hg
theorem fresh_foot {f b k : Nat} (h : Foot (fresh f b) k) : k = f ∨ k = b := by
  rcases h with rfl | ⟨P, hP⟩ | ⟨K, hK⟩ | ⟨p, P, hP, _⟩ | ⟨q, K, hK, hg⟩
  · exact .inl rfl
  · simp [fresh] at hP
  · exact .inr (fresh_bk hK).1
  · simp [fresh] at hP
  · obtain ⟨_, rfl⟩ := fresh_bk hK
    simp [Value.ownBlock] at hg

set_option maxHeartbeats 400000 in
set_option maxRecDepth 100000 in
theorem new_c {B : Bd} {w : World} (hB : B ≤ w.heap.size) (hX : ∀ k, B.X k → k < w.heap.size) : Calls Try.prog 83 #[] w fun e w' => ∃ f b, e = .returned (.pointer (some ⟨b, 0, none⟩)) ∧ Fam B w' (fresh f b) ∧ Below w.heap.size w w' ∧ w.heap.size ≤ f ∧ w.heap.size ≤ b := by
  go_enter Try.func83, Try.ntmps83
  go_wp2
  go_ret
  exact ⟨_, _, rfl, fresh_fam hB hX, ((Below.refl _ _).alloc (Nat.le_refl _) _).alloc (by simp) _, Nat.le_refl _, by simp⟩
end Go.Proofs.Ytdgpblhmfkpblaa.Pg
