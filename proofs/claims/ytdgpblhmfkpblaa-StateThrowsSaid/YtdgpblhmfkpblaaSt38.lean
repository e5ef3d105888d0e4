/- Throw, plainly: down to the nearest try; down to none. -/
import Derived.Test.YtdgpblhmfkpblaaSt36
namespace Go.Proofs.Ytdgpblhmfkpblaa.Pg
open Go.RowKit

theorem PS.over_zero (P : PS) : P.over 0 = P := by unfold PS.over; rw [if_pos rfl]
theorem throw_none (v : VD) : ∀ (n : Nat) (P : PS), P.frames.length = n → (∀ F ∈ P.frames, F.tries = [] ∧ F.gen = 0) → P.throw v n = ({ P with frames := [] }, true)
  | 0, P, hn, _ => by
    have : P.frames = [] := List.length_eq_zero_iff.1 hn
    cases P
    simp only at this
    subst this
    rfl
  | n + 1, P, hn, h => by
    have hF : P.frames[n]? = some P.frames[n] := List.getElem?_eq_getElem (by omega)
    obtain ⟨h1, h2⟩ := h _ (List.mem_of_getElem? hF)
    simp only [PS.throw, hF, h1, List.reverse_nil, h2, PS.over_zero]
    rw [throw_none v n { P with frames := P.frames.take n } (by show (P.frames.take n).length = n; rw [List.length_take]; omega) (fun F hF => h F (List.mem_of_mem_take hF))]
theorem throw_down (v : VD) {F : FrD} {j : Nat} {t : TrD} {ts : List TrD} (ht : F.tries.reverse = t :: ts) : ∀ (n : Nat) (P : PS), P.frames.length = n → P.frames[j]? = some F → (∀ i F', i ≠ j → P.frames[i]? = some F' → F'.tries = [] ∧ F'.gen = 0) →
    P.throw v n = ({ P with frames := (P.frames.take (j + 1)).set j (tryTo F ts.reverse t v) }, false)
  | 0, P, hn, hj, _ => by rw [List.length_eq_zero_iff.1 hn] at hj; cases hj
  | n + 1, P, hn, hj, h => by
    have hF : P.frames[n]? = some P.frames[n] := List.getElem?_eq_getElem (by omega)
    have hjn := (List.getElem?_eq_some_iff.1 hj).1
    by_cases e : n = j
    · subst e
      simp only [PS.throw, hj, ht]
      rw [List.take_of_length_le (by omega)]
    · obtain ⟨h1, h2⟩ := h n _ e hF
      simp only [PS.throw, hF, h1, List.reverse_nil, h2, PS.over_zero]
      rw [throw_down v ht n { P with frames := P.frames.take n } (by show (P.frames.take n).length = n; rw [List.length_take]; omega) (by show (P.frames.take n)[j]? = some F; rw [List.getElem?_take, if_pos (by omega)]; exact hj)
        (fun i F' hi hF' => h i F' hi (by have : (P.frames.take n)[i]? = some F' := hF'; rw [List.getElem?_take] at this; split at this; exact this; cases this))]
      show (({ P with frames := ((P.frames.take n).take (j + 1)).set j (tryTo F ts.reverse t v) } : PS), false) = _
      rw [List.take_take, Nat.min_eq_left (by omega)]
end Go.Proofs.Ytdgpblhmfkpblaa.Pg
