/- over; a frame's tries; less of a row. -/
import Derived.Test.YtdgpblhmfkpblaaSt33
namespace Go.Proofs.Ytdgpblhmfkpblaa.Pg
open Go.RowKit

def PS.over (P : PS) (g : Int) : PS := if g = 0 then P else { P with cells := P.cells.set (g - 1).toNat ⟨6, 2, 0, [], []⟩ }
section
variable {B B' : Bd} {w w' : World} {G G' : SG} {P P' : PS} {D D' : FD} {hs : List Nat} {L : List (Option (List CD))} {i : Nat}
theorem list_set_same {α : Type} {l : List α} {i : Nat} {x : α} (h : l[i]? = some x) : l.set i x = l := by
  apply List.ext_getElem?
  intro j
  rw [List.getElem?_set]
  split
  · rename_i e
    subst e
    rw [h, if_pos (List.getElem?_eq_some_iff.1 h).1]
  · rfl
theorem PS.over_length (P : PS) (g : Int) : (P.over g).cells.length = P.cells.length := by unfold PS.over; split <;> simp
theorem PS.over_frames (P : PS) (g : Int) : (P.over g).frames = P.frames := by unfold PS.over; split <;> rfl
set_option maxHeartbeats 800000 in
set_option maxRecDepth 100000 in
theorem over_c (h : Sta B w D hs L i G P) (hL : L.length ≤ 1000) {g : Int} (hg : g = 0 ∨ (1 ≤ g ∧ g ≤ (P.cells.length : Nat))) (hcl : P.cells.length ≤ 4096) :
    Calls Try.prog 53 #[ptr G.at_, .int .i64 g] w fun e w' => e = .returned (.tuple #[]) ∧ ∃ D', Sta B w' D' hs (L.set i (some (P.over g).cells)) i G (P.over g) ∧ SMv B w D G B w' D' G := by
  have c0 := h.ok.c (k := 0) (u := ptr G.hp) rfl
  unfold ptr at c0 ⊢
  rcases hg with rfl | ⟨h1, h2⟩
  · have hS : Sta B w D hs (L.set i (some (P.over 0).cells)) i G (P.over 0) := by
      have e : P.over 0 = P := by unfold PS.over; rw [if_pos rfl]
      rw [e, list_set_same h.cells]; exact h
    have HS := hid hS
    clear h hS c0
    go_enter Try.func53, Try.ntmps53
    go_wp2_with fail
    exact bodyPost_end (results_none rfl _ _ _) rfl ⟨rfl, D, HS.out, SMv.refl _ _ _ _⟩
  · have hne : (g != 0) = true := by simp; omega
    have e : P.over g = { P with cells := P.cells.set (g - 1).toNat ⟨6, 2, 0, [], []⟩ } := by unfold PS.over; rw [if_neg (by omega)]
    rw [e]
    have H := hid h
    have hl := (List.getElem?_eq_some_iff.1 h.cells).1
    have HB : Box (B ≤ w.heap.size) := hid (Nat.le_trans h.ok.base (Nat.le_of_lt (h.ok.foot_lt (.inl rfl)).1))
    clear h e
    go_enter Try.func53, Try.ntmps53
    go_wp2_with fail
    refine (H.out.h.store HB.out hL H.out.hp H.out.cells (k := g) h1 (by omega) (by omega) (c := ⟨6, 2, 0, [], []⟩) ⟨RowR.nil _ _ _, RowR.nil _ _ _⟩ ⟨by simp, by simp⟩).mono ?_
    rintro e w2 ⟨rfl, D2, hH, hG⟩
    have HH := hid hH
    have HG := hid hG
    clear hH hG
    go_wp2_with fail
    exact bodyPost_end (results_none rfl _ _ _) rfl ⟨rfl, D2, H.out.goes HH.out HG.out, SMv.goes G HG.out⟩
/-- Less of a row. -/
theorem rowR_take {sz n cap m : Nat} {A : Option Addr} {xs : List (List Value)} (h : RowR B w sz (.slice A n cap) xs) (hm : m ≤ n) : RowR B w sz (.slice A m cap) (xs.take m) := by
  obtain ⟨A', n', cap', e, h1, h2, h3, h4, h5⟩ := h
  injection e with e1 e2 e3
  subst e1 e2 e3
  refine ⟨A, m, cap, rfl, by rw [List.length_take]; omega, by omega, h3, h4, fun hp => ?_⟩
  obtain ⟨b, o, e, hi, hc⟩ := h5 (by omega)
  refine ⟨b, o, e, hi, fun j c hj => hc j c ?_⟩
  rw [List.getElem?_take] at hj
  split at hj
  · exact hj
  · cases hj
/-- A frame's cells. -/
theorem StOk.frameAt (h : StOk B w G P) {j g n cap : Nat} {F : FrD} (hg : G.fsl = .slice (some ⟨g, 0, none⟩) n cap) (hF : P.frames[j]? = some F) :
    ∃ c A p A' p', G.rows[j]? = some c ∧ c = frameRow F (.slice A F.vals.length p) (.slice A' F.tries.length p') ∧ (∀ k u, c[k]? = some u → w.cell? ⟨g, j * 9 + k, none⟩ = some u) ∧ XRow B w 33 3 (.slice A F.vals.length p) (F.vals.map VD.row) ∧ RowR B w 3 (.slice A' F.tries.length p') (F.tries.map TrD.row) := by
  obtain ⟨c, hc, v, t, e, hv, ht⟩ := h.rowOf hF
  obtain ⟨A, p, e1⟩ := hv.slice
  obtain ⟨A', n', p', e2, e3, _⟩ := id ht
  rw [List.length_map] at e1 e3
  subst e1 e2 e3
  have hr := h.fr
  rw [hg] at hr
  exact ⟨c, A, p, A', p', hc, e, fun k u hk => xr_cell hr hc hk, hv, ht⟩
end
end Go.Proofs.Ytdgpblhmfkpblaa.Pg
