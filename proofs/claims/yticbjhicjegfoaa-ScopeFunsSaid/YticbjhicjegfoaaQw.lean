/- Rows of texts. -/
import Derived.Test.YticbjhicjegfoaaQc
namespace Go.Proofs.Yticbjhicjegfoaa.Q
open Go.RowKit
open Go.Proofs.YticbjhicjegfoaaW.PrintWords

/-- A row of texts in memory. -/
def TextsAt (w : World) (b : Nat) (l : List ByteArray) : Prop := ∀ (j : Nat) (s : ByteArray), l[j]? = some s → w.cell? ⟨b, j, none⟩ = some (.string s)
theorem TextsAt.drewN {w : World} {b : Nat} {l : List ByteArray} (h : TextsAt w b l) (m : Nat) : TextsAt (w.drewN m) b l := h
theorem lit_beq (s : ByteArray) (L : List UInt8) : (s.toList == L) = beqB s ⟨L.toArray⟩ := by
  rw [← toList_beq, show (⟨L.toArray⟩ : ByteArray).toList = L by rw [ByteArray.toList_eq]]
set_option maxHeartbeats 1600000 in
set_option maxRecDepth 100000 in
theorem in_rc {w : World} {b : Nat} {l : List ByteArray} (h : TextsAt w b l) (hl : l.length ≤ 1000) (s : ByteArray) : Calls Try.prog 59 #[.slice (some ⟨b, 0, none⟩) l.length l.length, .string s] w fun e w' => e = .returned (.bool (l.any (fun x => beqB x s))) ∧ w' = w := by
  have H := hid h
  clear h
  go_enter Try.func59, Try.ntmps59
  go_wp2_with fail
  go_loop [5] (fun i => ∃ j : Nat, j ≤ l.length ∧ i = .int .i64 j ∧ Box ((l.take j).any (fun x => beqB x s) = false)) (fun i => l.length - (RowKit.intOf i).toNat)
  case atStart => exact ⟨0, Nat.zero_le _, rfl, hid (by simp)⟩
  case round =>
    obtain ⟨j, hj, rfl, HA⟩ := hrel
    rcases Nat.lt_or_ge j l.length with hlt | hge
    · have hx : l[j]? = some l[j] := List.getElem?_eq_getElem hlt
      have hc := H.out j _ hx
      have htk := List.take_succ_eq_append_getElem hlt
      generalize l[j] = x at hx hc htk
      have HTK := hid htk
      have hlt' : (j : Int) < (l.length : Int) := by omega
      cases hb : beqB x s
      · have hq : (x.toList == s.toList) = false := by rw [toList_beq]; exact hb
        have HB := hid hb
        clear hx htk hb
        go_wp2_with fail
        go_round
        case rel => exact ⟨j + 1, by omega, by go_num, hid (by rw [HTK.out, List.any_append, HA.out]; simp [HB.out])⟩
        case measure => simp [RowKit.intOf]; omega
      · have hq : (x.toList == s.toList) = true := by rw [toList_beq]; exact hb
        have HB : Box (l.any (fun x => beqB x s) = true) := hid (List.any_eq_true.2 ⟨x, List.mem_of_getElem? hx, hb⟩)
        clear hx htk hb
        go_wp2_with fail
        go_ret
        exact ⟨ret_bool HB.out, rfl⟩
    · obtain rfl : j = l.length := by omega
      have HB : Box (l.any (fun x => beqB x s) = false) := by have := HA.out; rw [List.take_length] at this; exact hid this
      clear HA
      go_wp2_with fail
      go_ret
      exact ⟨ret_bool HB.out, rfl⟩
theorem among_hit {w : World} {b : Nat} {l : List ByteArray} (h : TextsAt w b l) (hl : l.length ≤ 1000) (s : ByteArray) {q : Bool} (hq : l.any (fun x => beqB x s) = q) : Calls Try.prog 59 #[.slice (some ⟨b, 0, none⟩) l.length l.length, .string s] w fun e w' => e = .returned (.bool q) ∧ w' = w := by
  have := in_rc h hl s
  rwa [hq] at this
theorem texts_new (w : World) (l : List ByteArray) (t : TypeId) : TextsAt (w.alloc (.cells (l.map Value.string).toArray t)) w.heap.size l := fun j s hj => by
  refine (cell_of_row _ _ j _ _ _ (heap_alloc_new _ _)).trans ?_
  simp [hj]
end Go.Proofs.Yticbjhicjegfoaa.Q
