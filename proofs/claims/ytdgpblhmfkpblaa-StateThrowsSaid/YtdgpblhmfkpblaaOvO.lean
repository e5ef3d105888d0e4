/- As Ov, of a region that keeps its order. -/
import Derived.Test.YtdgpblhmfkpblaaOv
namespace Go.Proofs.Ytdgpblhmfkpblaa.Pg
open Go.RowKit

theorem wpList_of_quiet {P : Program} {ops : Array Oper} {C : World → Prop} {Q : Exit → Act → World → Prop} {Q' : Act → Prop} (hQ : ∀ a w, C w → Q' a → Q .normal a w) : ∀ (l : List Oper) (a : Act) (w : World), C w → wpQuiet P ops C Q' l a → wpList P ops Q l a w
  | [], a, w, hw, h => hQ a w hw h
  | o :: rest, a, w, hw, h => by
    refine wpList_step fun K hK => ?_
    unfold wpQuiet at h
    split
    · rename_i hn
      rw [if_pos hn] at h
      exact Oper.wp_of_quiet hw (fun a w' hw' h' => hK _ _ (wpList_of_quiet hQ rest a w' hw' h')) h
    · rename_i hn
      rw [if_neg hn] at h
      exact hK _ _ (wpList_of_quiet hQ rest _ w hw h)

theorem wp_region_over_ord {P : Program} {id : Nat} {Q : Exit → Act → World → Prop} {a : Act} {w : World} {l : List Oper}
    (h : wpQuiet P l.toArray (fun w' => ∃ x : Over w, w' = ov w x) (fun a' => ∀ w', (∃ x : Over w, w' = ov w x) → Q .normal a' w') l a) : (Code.region id l.toArray false).wp P Q a w :=
  wp_region_lit (wpList_of_quiet (C := fun w' => ∃ x : Over w, w' = ov w x) (fun _ _ hw h => h _ hw) l a w ⟨⟨w, Below.refl _ _⟩, rfl⟩ h)
end Go.Proofs.Ytdgpblhmfkpblaa.Pg
