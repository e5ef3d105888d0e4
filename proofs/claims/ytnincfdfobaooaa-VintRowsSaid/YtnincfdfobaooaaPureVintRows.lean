/- Numbers in a row are told one behind the other: the plain law. No condition. -/
import Derived.Test.YtnincfdfobaooaaVM
namespace Go.Proofs.Ytnincfdfobaooaa.Pure
open Go.RowKit Go.Proofs.Ytnincfdfobaooaa.PVint Go.Proofs.YtnincfdfobaooaaW.PrintWords Go.Proofs.YtnincfdfobaooaaW.PrintLast
open Go.Proofs.Ytnincfdfobaooaa.VM

def cat : List Int → ByteArray
  | [] => ⟨#[]⟩
  | x :: l => P x ++ cat l

theorem cat_size : ∀ l, (cat l).size ≤ 10 * l.length
  | [] => by simp [cat, ByteArray.size]
  | x :: l => by have := cat_size l; have := P_size x; simp [cat, ByteArray.size_append]; omega

theorem app_nil (a : ByteArray) : a ++ (⟨#[]⟩ : ByteArray) = a := ByteArray.append_empty

theorem i64_of_wf {x : Int} (h : (Lit.int .i64 x).wf = true) : I64 x := by
  simp [Lit.wf, IntKind.min, IntKind.max, IntKind.signed, IntKind.bits] at h
  exact ⟨h.1, by omega⟩

theorem rd_drop {l : List Int} {i : Nat} (h : i < l.length) : l.drop i = rd l i :: l.drop (i + 1) := by
  rw [List.drop_eq_getElem_cons h]; congr 1; simp [rd, h]

theorem rows_l1 (l : List Int) (hl : l.length ≤ 50) (hw : ∀ x ∈ l, I64 x) (s : ByteArray) (hs : s.size ≤ 500) : ∀ (d k i : Nat) (a : ByteArray), i + d = l.length → d + 30 ≤ k → s = a ++ cat (l.drop i) →
    boomeranglaw1_VintRows.l1 k l s (a.size : Int) i = some true
  | _, 0, _, _, _, h, _ => by omega
  | 0, k + 1, i, a, he, hk, e => by
    simp only [boomeranglaw1_VintRows.l1]
    rw [if_neg (by omega)]
    rw [List.drop_eq_nil_of_le (by omega)] at e
    have : s.size = a.size := by rw [e, ByteArray.size_append]; rfl
    rw [if_pos (by omega), awake k (by omega)]; rfl
  | d + 1, k + 1, i, a, he, hk, e => by
    have hi : i < l.length := by omega
    have hd := rd_drop hi
    have hx : I64 (rd l i) := hw _ (by simp [rd, hi])
    rw [hd] at e
    have e2 : s = a ++ P (rd l i) ++ cat (l.drop (i + 1)) := by rw [e, cat, ByteArray.append_assoc]
    have hp := P_size (rd l i)
    simp only [boomeranglaw1_VintRows.l1]
    rw [if_pos (by omega), get k s _ (by omega) (by omega), Option.bind_some, if_pos (by omega)]
    have hg := G_put a _ hx (cat (l.drop (i + 1)))
    rw [← e2] at hg
    rw [hg]
    simp only [if_true, boomeranglaw1_Err.f, Option.bind_some]
    rw [if_neg (by omega)]
    rw [show wrap64 ((i : Int) + 1) = ((i + 1 : Nat) : Int) by unfold wrap64; omega]
    have := rows_l1 l hl hw s hs d k (i + 1) (a ++ P (rd l i)) (by omega) (by omega) e2
    rw [ByteArray.size_append, Int.natCast_add] at this
    exact this

theorem rows_l0 (l : List Int) (hl : l.length ≤ 50) (hw : ∀ x ∈ l, I64 x) : ∀ (d k i : Nat) (a : ByteArray), i + d = l.length → d + 100 ≤ k → a.size ≤ 10 * i → cat l = a ++ cat (l.drop i) →
    boomeranglaw1_VintRows.l0 k l a i = some true
  | _, 0, _, _, _, h, _, _ => by omega
  | 0, k + 1, i, a, he, hk, ha, e => by
    simp only [boomeranglaw1_VintRows.l0]
    rw [if_neg (by omega)]
    rw [List.drop_eq_nil_of_le (by omega)] at e
    have e' : cat l = a := by rw [e, cat, app_nil]
    have hc := cat_size l
    refine rows_l1 l hl hw a (by rw [← e']; omega) l.length k 0 ⟨#[]⟩ (by omega) (by omega) ?_
    rw [← e']; simp only [List.drop_zero]; exact ByteArray.empty_append.symm
  | d + 1, k + 1, i, a, he, hk, ha, e => by
    have hi : i < l.length := by omega
    have hd := rd_drop hi
    have hx : I64 (rd l i) := hw _ (by simp [rd, hi])
    have hp := P_size (rd l i)
    rw [hd] at e
    simp only [boomeranglaw1_VintRows.l0]
    rw [if_pos (by omega), if_pos (by omega), put k _ hx (by omega), Option.bind_some, if_pos (by omega)]
    rw [show wrap64 ((i : Int) + 1) = ((i + 1 : Nat) : Int) by unfold wrap64; omega]
    exact rows_l0 l hl hw d k (i + 1) (a ++ P (rd l i)) (by omega) (by omega) (by rw [ByteArray.size_append]; omega) (by rw [e, cat, ByteArray.append_assoc])

theorem VintRows : boomeranglaw1_VintRows.Pure := by
  intro l _ _ hw
  refine ⟨200, ?_⟩
  unfold boomeranglaw1_VintRows.f
  by_cases h : (l.length : Int) > 50
  · rw [if_pos h, awake 200 (by omega)]; rfl
  · rw [if_neg h]
    exact rows_l0 l (by omega) (fun x hx => i64_of_wf (hw x hx)) l.length 200 0 ⟨#[]⟩ (by omega) (by omega) (by simp [ByteArray.size]) (by simp only [List.drop_zero]; exact ByteArray.empty_append.symm)
end Go.Proofs.Ytnincfdfobaooaa.Pure
