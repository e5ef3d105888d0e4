/- Texts in a row are told one behind the other: the plain law. No condition. -/
import Derived.Test.YtnincfdfobaooaaPVintx7
import Derived.Test.YtnincfdfobaooaaVR
namespace Go.Proofs.Ytnincfdfobaooaa.PureTexts
open Go.RowKit Go.Proofs.Ytnincfdfobaooaa.PVint Go.Proofs.YtnincfdfobaooaaW.PrintWords Go.Proofs.YtnincfdfobaooaaW.PrintLast
open Go.Proofs.Ytnincfdfobaooaa.VM

def cat : List ByteArray → ByteArray
  | [] => ⟨#[]⟩
  | x :: l => TX x ++ cat l

theorem TX_size (t : ByteArray) : t.size < (TX t).size ∧ (TX t).size ≤ t.size + 10 := by
  have := P_size (t.size : Int)
  unfold TX; rw [ByteArray.size_append]; omega

theorem app_nil (a : ByteArray) : a ++ (⟨#[]⟩ : ByteArray) = a := ByteArray.append_empty

theorem rd_drop {l : List ByteArray} {i : Nat} (h : i < l.length) : l.drop i = rdOf ByteArray.empty l i :: l.drop (i + 1) := by
  rw [List.drop_eq_getElem_cons h]; congr 1; simp [rdOf, h]

theorem texts_l1 (l : List ByteArray) (hl : l.length ≤ 20) (hw : ∀ x ∈ l, x.size ≤ 300) (s : ByteArray) (hs : s.size ≤ 6200) : ∀ (d k i : Nat) (a : ByteArray), i + d = l.length → d + 40 ≤ k → s = a ++ cat (l.drop i) →
    boomeranglaw1_VintTexts.l1 k l s (a.size : Int) i = some true
  | _, 0, _, _, _, h, _ => by omega
  | 0, k + 1, i, a, he, hk, e => by
    simp only [boomeranglaw1_VintTexts.l1]
    rw [if_neg (by omega)]
    rw [List.drop_eq_nil_of_le (by omega)] at e
    have : s.size = a.size := by rw [e, ByteArray.size_append]; rfl
    have e1 : (TX (⟨#[]⟩ : ByteArray)).size = 1 := by decide +kernel
    rw [if_pos (by omega), txt k _ (by decide) (by omega), Option.bind_some, if_pos (by rw [e1]; rfl), awake k (by omega)]; rfl
  | d + 1, k + 1, i, a, he, hk, e => by
    have hi : i < l.length := by omega
    have hd := rd_drop hi
    have hx : (rdOf ByteArray.empty l i).size ≤ 300 := hw _ (by simp [rdOf, hi])
    rw [hd] at e
    have e2 : s = a ++ TX (rdOf ByteArray.empty l i) ++ cat (l.drop (i + 1)) := by rw [e, cat, ByteArray.append_assoc]
    have hp := TX_size (rdOf ByteArray.empty l i)
    simp only [boomeranglaw1_VintTexts.l1]
    rw [if_pos (by omega), getText k s _ (by omega) (by omega), Option.bind_some, if_pos (by omega)]
    have hg := GT_text a _ (cat (l.drop (i + 1))) (show (rdOf ByteArray.empty l i).size ≤ 4096 by omega)
    rw [← e2] at hg
    rw [hg]
    simp only [if_true, boomeranglaw1_Err.f, Option.bind_some]
    rw [if_neg (by omega)]
    rw [show wrap64 ((i : Int) + 1) = ((i + 1 : Nat) : Int) by unfold wrap64; omega]
    have := texts_l1 l hl hw s hs d k (i + 1) (a ++ TX (rdOf ByteArray.empty l i)) (by omega) (by omega) e2
    rw [ByteArray.size_append, Int.natCast_add] at this
    exact this

theorem texts_l0 (l : List ByteArray) (hl : l.length ≤ 20) : ∀ (d k i : Nat) (a : ByteArray), i + d = l.length → d + 100 ≤ k → a.size ≤ 310 * i → (∀ j, j < i → (l.getD j ByteArray.empty).size ≤ 300) → cat l = a ++ cat (l.drop i) →
    boomeranglaw1_VintTexts.l0 k l a i = some true
  | _, 0, _, _, _, h, _, _, _ => by omega
  | 0, k + 1, i, a, he, hk, ha, hj, e => by
    simp only [boomeranglaw1_VintTexts.l0]
    rw [if_neg (by omega)]
    rw [List.drop_eq_nil_of_le (by omega)] at e
    have e' : cat l = a := by rw [e, cat, app_nil]
    refine texts_l1 l hl (fun x hx => ?_) a (by omega) l.length k 0 ⟨#[]⟩ (by omega) (by omega) ?_
    · obtain ⟨j, hj', rfl⟩ := List.getElem_of_mem hx
      have := hj j (by omega)
      simpa [List.getD, hj'] using this
    · rw [← e']; simp only [List.drop_zero]; exact ByteArray.empty_append.symm
  | d + 1, k + 1, i, a, he, hk, ha, hj, e => by
    have hi : i < l.length := by omega
    have hd := rd_drop hi
    have hp := TX_size (rdOf ByteArray.empty l i)
    rw [hd] at e
    simp only [boomeranglaw1_VintTexts.l0]
    rw [if_pos (by omega), if_pos (by omega)]
    by_cases h3 : ((rdOf ByteArray.empty l i).size : Int) > 300
    · rw [if_pos h3, awake k (by omega)]; rfl
    · rw [if_neg h3, txt k _ (by omega) (by omega), Option.bind_some, if_pos (by omega)]
      rw [show wrap64 ((i : Int) + 1) = ((i + 1 : Nat) : Int) by unfold wrap64; omega]
      refine texts_l0 l hl d k (i + 1) (a ++ TX (rdOf ByteArray.empty l i)) (by omega) (by omega) (by rw [ByteArray.size_append]; omega) (fun j h => ?_) (by rw [e, cat, ByteArray.append_assoc])
      by_cases hji : j = i
      · subst hji
        have : (rdOf ByteArray.empty l j).size ≤ 300 := by omega
        simpa [rdOf] using this
      · exact hj j (by omega)

theorem VintTexts (l : List ByteArray) : boomeranglaw1_VintTexts.f 200 l = some true := by
  unfold boomeranglaw1_VintTexts.f
  by_cases h : (l.length : Int) > 20
  · rw [if_pos h, awake 200 (by omega)]; rfl
  · rw [if_neg h]
    exact texts_l0 l (by omega) l.length 200 0 ⟨#[]⟩ (by omega) (by omega) (by simp [ByteArray.size]) (fun j h => by omega) (by simp only [List.drop_zero]; exact ByteArray.empty_append.symm)
end Go.Proofs.Ytnincfdfobaooaa.PureTexts
