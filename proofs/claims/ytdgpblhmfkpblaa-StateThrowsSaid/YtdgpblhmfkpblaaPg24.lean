/- Contracts of package heap, over those of package pages. -/
import Derived.Test.YtdgpblhmfkpblaaPg20
namespace Go.Proofs.Ytdgpblhmfkpblaa.Pg
open Go.RowKit

/-- A heap's block: it leads to its book. -/
def HOk (w : World) (h b : Nat) : Prop := w.heap[h]? = some (.cells #[ptr b] 140 (0, 0))
theorem Fam.foot_typ {B : Bd} {w : World} {D : FD} (h : Fam B w D) {k : Nat} (hk : Foot D k) : ∃ T, Typ w k T ∧ T ≠ 140 := by
  rcases hk with rfl | ⟨P, hP⟩ | ⟨K, hK⟩ | ⟨p, P, hP, hk⟩ | ⟨b, K, hK, hk⟩
  · exact ⟨_, h.tFam, by decide⟩
  · exact ⟨_, h.tPg hP, by decide⟩
  · exact ⟨_, h.tBk hK, by decide⟩
  · exact ⟨_, h.tPgRow hP hk, by decide⟩
  · exact ⟨_, h.tBkRow hK hk, by decide⟩
section
variable {B : Bd} {w w' : World} {D D' : FD} {h b : Nat}
theorem HOk.lt (hH : HOk w h b) : h < w.heap.size := (Typ.of hH).lt
theorem HOk.goes (hH : HOk w h b) (hF : Fam B w D) (hG : Goes B w D w' D') : HOk w' h b :=
  (hG.keep h hH.lt (fun hf => by obtain ⟨T, hT, hne⟩ := hF.foot_typ hf; exact hne (hT.uniq (Typ.of hH)))).trans hH
theorem HOk.below (hH : HOk w h b) (hb : Below w.heap.size w w') : HOk w' h b := (hb.block h hH.lt).trans hH
theorem HOk.cell (hH : HOk w h b) : w.cell? ⟨h, 0, none⟩ = some (.pointer (some ⟨b, 0, none⟩)) := cell_of_row w h 0 _ _ _ hH

set_option maxRecDepth 100000 in
theorem book_nil (w : World) : Calls Try.prog 72 #[.pointer none] w fun e w' => e = .returned (.pointer none) ∧ w' = w := by
  go_enter Try.func72, Try.ntmps72
  go_wp2_with fail
  go_ret
  exact ⟨rfl, rfl⟩
set_option maxRecDepth 100000 in
theorem book_c (hH : HOk w h b) : Calls Try.prog 72 #[.pointer (some ⟨h, 0, none⟩)] w fun e w' => e = .returned (.pointer (some ⟨b, 0, none⟩)) ∧ w' = w := by
  have c0 := hH.cell
  clear hH
  go_enter Try.func72, Try.ntmps72
  go_wp2_with fail
  go_ret
  exact ⟨rfl, rfl⟩

set_option maxHeartbeats 400000 in
set_option maxRecDepth 100000 in
theorem hnew (w : World) {Q : Nat → World → Prop} (hN : Calls Try.prog 83 #[] w fun e w' => ∃ b, e = .returned (.pointer (some ⟨b, 0, none⟩)) ∧ Q b w') :
    Calls Try.prog 43 #[] w fun e w' => ∃ b w1, e = .returned (.pointer (some ⟨w1.heap.size, 0, none⟩)) ∧ Q b w1 ∧ w' = w1.alloc (.cells #[.pointer (some ⟨b, 0, none⟩)] 140) := by
  have HN := hid hN
  clear hN
  go_enter Try.func43, Try.ntmps43
  go_wp2_with (go_at_call 83; refine HN.out.mono ?_; rintro e w1 ⟨b, rfl, hq⟩; have HQ := hid hq; clear hq)
  go_ret
  exact ⟨_, _, rfl, HQ.out, rfl⟩
set_option maxHeartbeats 400000 in
set_option maxRecDepth 100000 in
theorem hlen (hH : HOk w h b) {n : Int} (hN : Calls Try.prog 112 #[ptr b] w fun e w' => e = .returned (.int .i64 n) ∧ w' = w) :
    Calls Try.prog 84 #[ptr h] w fun e w' => e = .returned (.int .i64 n) ∧ w' = w := by
  have HN := hid hN
  have HH := hid hH
  clear hN hH
  unfold ptr
  go_enter Try.func84, Try.ntmps84
  go_wp2_with fail
  refine (book_c HH.out).mono ?_
  rintro e w1 ⟨rfl, rfl⟩
  go_wp2_with fail
  refine HN.out.mono ?_
  rintro e w1 ⟨rfl, rfl⟩
  go_wp2_with fail
  go_ret
  exact ⟨rfl, rfl⟩
set_option maxHeartbeats 400000 in
set_option maxRecDepth 100000 in
theorem hmark (hH : HOk w h b) {Q : Nat → World → Prop} (hN : Calls Try.prog 105 #[ptr b] w fun e w' => ∃ b', e = .returned (.pointer (some ⟨b', 0, none⟩)) ∧ Q b' w') :
    Calls Try.prog 68 #[ptr h] w fun e w' => ∃ b' w1, e = .returned (.pointer (some ⟨w1.heap.size, 0, none⟩)) ∧ Q b' w1 ∧ w' = w1.alloc (.cells #[.pointer (some ⟨b', 0, none⟩)] 140) := by
  have HN := hid hN
  have HH := hid hH
  clear hN hH
  unfold ptr
  go_enter Try.func68, Try.ntmps68
  go_wp2_with fail
  refine (book_c HH.out).mono ?_
  rintro e w1 ⟨rfl, rfl⟩
  go_wp2_with fail
  refine HN.out.mono ?_
  rintro e w1 ⟨b', rfl, hq⟩
  have HQ := hid hq
  clear hq
  go_wp2_with fail
  go_ret
  exact ⟨_, _, rfl, HQ.out, rfl⟩
set_option maxHeartbeats 400000 in
set_option maxRecDepth 100000 in
theorem hmark_nil (w : World) : Calls Try.prog 68 #[.pointer none] w fun e w' => e = .returned (.pointer none) ∧ w' = w := by
  go_enter Try.func68, Try.ntmps68
  go_wp2_with (first | (go_at_call 72; refine (book_nil _).mono ?_; rintro e w1 ⟨rfl, rfl⟩) | (go_at_call 105; refine (mark_nil _).mono ?_; rintro e w1 ⟨rfl, rfl⟩))
  go_ret
  exact ⟨rfl, rfl⟩
set_option maxHeartbeats 400000 in
set_option maxRecDepth 100000 in
theorem hlen_nil (w : World) : Calls Try.prog 84 #[.pointer none] w fun e w' => e = .returned (.int .i64 0) ∧ w' = w := by
  go_enter Try.func84, Try.ntmps84
  go_wp2_with (first | (go_at_call 72; refine (book_nil _).mono ?_; rintro e w1 ⟨rfl, rfl⟩) | (go_at_call 112; refine (len_nil _).mono ?_; rintro e w1 ⟨rfl, rfl⟩))
  go_ret
  exact ⟨rfl, rfl⟩
end
end Go.Proofs.Ytdgpblhmfkpblaa.Pg
