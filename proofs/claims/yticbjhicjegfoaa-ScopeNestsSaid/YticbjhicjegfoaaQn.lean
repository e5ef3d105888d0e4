/- Rows of signs; words that are an expression. -/
import Derived.Test.YticbjhicjegfoaaQh
import Derived.Test.YticbjhicjegfoaaQt2
import Derived.Deep.QuietTactic
import Derived.BigQuiet
namespace Go.Proofs.Yticbjhicjegfoaa.Q
open Go.RowKit
open Go.Proofs.YticbjhicjegfoaaW.PrintWords

/-- The rows of signs in memory, in blocks from n0 on. -/
def RowsAt (w : World) (n0 n1 b : Nat) : Prop := (n0 ≤ b ∧ b < n1) ∧ ∀ (i : Nat) (l : List ByteArray), rowsL[i]? = some l → ∃ bl, (n0 ≤ bl ∧ bl < n1) ∧ w.cell? ⟨b, i, none⟩ = some (.slice (some ⟨bl, 0, none⟩) l.length l.length) ∧ TextsAt w bl l
set_option maxHeartbeats 1600000 in
set_option maxRecDepth 100000 in
theorem rows_c (w : World) : Calls Try.prog 101 #[] w fun e w' => ∃ b, e = .returned (.slice (some ⟨b, 0, none⟩) 6 6) ∧ RowsAt w' w.heap.size w'.heap.size b ∧ Below w.heap.size w w' := by
  go_enter Try.func101, Try.ntmps101
  go_wp2_with fail
  go_ret
  refine ⟨_, rfl, ⟨⟨by omega, by simp⟩, ?_⟩, ?_⟩
  · intro i l hi
    rcases i with _ | _ | _ | _ | _ | _ | i
    · obtain rfl : [(⟨#[124, 124]⟩ : ByteArray)] = l := by simpa [rowsL] using hi
      refine ⟨w.heap.size, ⟨by omega, by simp; try omega⟩, by simp [go_sem], fun j s hj => ?_⟩
      rcases j with _ | j
      · obtain rfl : (⟨#[124, 124]⟩ : ByteArray) = s := by simpa using hj
        simp [go_sem]
      · simp at hj
    · obtain rfl : [(⟨#[38, 38]⟩ : ByteArray)] = l := by simpa [rowsL] using hi
      refine ⟨w.heap.size + 1, ⟨by omega, by simp; try omega⟩, by simp [go_sem], fun j s hj => ?_⟩
      rcases j with _ | j
      · obtain rfl : (⟨#[38, 38]⟩ : ByteArray) = s := by simpa using hj
        simp [go_sem]
      · simp at hj
    · obtain rfl : [(⟨#[61, 61, 61]⟩ : ByteArray), (⟨#[33, 61, 61]⟩ : ByteArray)] = l := by simpa [rowsL] using hi
      refine ⟨w.heap.size + 1 + 1, ⟨by omega, by simp; try omega⟩, by simp [go_sem], fun j s hj => ?_⟩
      rcases j with _ | _ | j
      · obtain rfl : (⟨#[61, 61, 61]⟩ : ByteArray) = s := by simpa using hj
        simp [go_sem]
      · obtain rfl : (⟨#[33, 61, 61]⟩ : ByteArray) = s := by simpa using hj
        simp [go_sem]
      · simp at hj
    · obtain rfl : [(⟨#[60]⟩ : ByteArray), (⟨#[60, 61]⟩ : ByteArray), (⟨#[62]⟩ : ByteArray), (⟨#[62, 61]⟩ : ByteArray)] = l := by simpa [rowsL] using hi
      refine ⟨w.heap.size + 1 + 1 + 1, ⟨by omega, by simp; try omega⟩, by simp [go_sem], fun j s hj => ?_⟩
      rcases j with _ | _ | _ | _ | j
      · obtain rfl : (⟨#[60]⟩ : ByteArray) = s := by simpa using hj
        simp [go_sem]
      · obtain rfl : (⟨#[60, 61]⟩ : ByteArray) = s := by simpa using hj
        simp [go_sem]
      · obtain rfl : (⟨#[62]⟩ : ByteArray) = s := by simpa using hj
        simp [go_sem]
      · obtain rfl : (⟨#[62, 61]⟩ : ByteArray) = s := by simpa using hj
        simp [go_sem]
      · simp at hj
    · obtain rfl : [(⟨#[43]⟩ : ByteArray), (⟨#[45]⟩ : ByteArray)] = l := by simpa [rowsL] using hi
      refine ⟨w.heap.size + 1 + 1 + 1 + 1, ⟨by omega, by simp; try omega⟩, by simp [go_sem], fun j s hj => ?_⟩
      rcases j with _ | _ | j
      · obtain rfl : (⟨#[43]⟩ : ByteArray) = s := by simpa using hj
        simp [go_sem]
      · obtain rfl : (⟨#[45]⟩ : ByteArray) = s := by simpa using hj
        simp [go_sem]
      · simp at hj
    · obtain rfl : [(⟨#[42]⟩ : ByteArray), (⟨#[47]⟩ : ByteArray), (⟨#[37]⟩ : ByteArray)] = l := by simpa [rowsL] using hi
      refine ⟨w.heap.size + 1 + 1 + 1 + 1 + 1, ⟨by omega, by simp; try omega⟩, by simp [go_sem], fun j s hj => ?_⟩
      rcases j with _ | _ | _ | j
      · obtain rfl : (⟨#[42]⟩ : ByteArray) = s := by simpa using hj
        simp [go_sem]
      · obtain rfl : (⟨#[47]⟩ : ByteArray) = s := by simpa using hj
        simp [go_sem]
      · obtain rfl : (⟨#[37]⟩ : ByteArray) = s := by simpa using hj
        simp [go_sem]
      · simp at hj
    · simp [rowsL] at hi
  · exact (((((((Below.refl _ _).alloc (Nat.le_refl _) _).alloc (by simp) _).alloc (by simp; omega) _).alloc (by simp; omega) _).alloc (by simp; omega) _).alloc (by simp; omega) _).alloc (by simp; omega) _
/-- The rows of signs, beside the parser. -/
def Beside (w : World) (a : Nat) (ok : Nat → Prop) (b : Nat) : Prop := ∃ n0 n1, RowsAt w n0 n1 b ∧ n1 ≤ w.heap.size ∧ ∀ k, n0 ≤ k → k < n1 → ¬ ok k ∧ k ≠ a
theorem Beside.start {w w1 : World} {a b : Nat} {ok : Nat → Prop} (h : RowsAt w1 w.heap.size w1.heap.size b) (hlo : ∀ k, ok k → k < w.heap.size) (ha : a < w.heap.size) : Beside w1 a ok b :=
  ⟨_, _, h, Nat.le_refl _, fun k h1 _ => ⟨fun h2 => by have := hlo k h2; omega, by omega⟩⟩
theorem Beside.mv {w w' : World} {a b : Nat} {ok ok' : Nat → Prop} (h : Beside w a ok b) (m : Mv w a ok w' ok') : Beside w' a ok' b := by
  obtain ⟨n0, n1, ⟨hb, hr⟩, hn, ho⟩ := h
  have keep : ∀ (k j : Nat) (u : Value), n0 ≤ k → k < n1 → w.cell? ⟨k, j, none⟩ = some u → w'.cell? ⟨k, j, none⟩ = some u := fun k j u h1 h2 hc =>
    cell_kept hc m.kp.kept (fun h => h.elim (ho k h1 h2).2 (ho k h1 h2).1)
  refine ⟨n0, n1, ⟨hb, fun i l hi => ?_⟩, Nat.le_trans hn m.kp.size, fun k h1 h2 => ⟨fun h => (m.sub k h).elim (ho k h1 h2).1 (fun h' => by omega), (ho k h1 h2).2⟩⟩
  obtain ⟨bl, hbl, hc, ht⟩ := hr i l hi
  exact ⟨bl, hbl, keep _ _ _ hb.1 hb.2 hc, fun j s hj => keep _ _ _ hbl.1 hbl.2 (ht j s hj)⟩
theorem Beside.row {w : World} {a b : Nat} {ok : Nat → Prop} (h : Beside w a ok b) {i : Nat} {l : List ByteArray} (hi : rowsL[i]? = some l) : ∃ bl, w.cell? ⟨b, i, none⟩ = some (.slice (some ⟨bl, 0, none⟩) l.length l.length) ∧ TextsAt w bl l := by
  obtain ⟨n0, n1, ⟨_, hr⟩, _, _⟩ := h
  obtain ⟨bl, _, h1, h2⟩ := hr i l hi
  exact ⟨bl, h1, h2⟩
theorem Beside.below {w w' : World} {a b : Nat} {ok : Nat → Prop} (h : Beside w a ok b) (hb : Below w.heap.size w w') : Beside w' a ok b :=
  h.mv ⟨Kp.of_below hb, fun _ h => .inl h⟩
/-- A word that is an expression. -/
def simpleV (s : ByteArray) : Value := match simpleB s with
  | some q => .agg #[.int .i64 q.1, .int .i64 q.2, .string ⟨#[]⟩, .slice none 0 0, .slice none 0 0, .int .i64 0]
  | none => .agg #[.int .i64 0, .int .i64 0, .string ⟨#[]⟩, .slice none 0 0, .slice none 0 0, .int .i64 0]
set_option maxHeartbeats 1600000 in
set_option maxRecDepth 100000 in
theorem simple_c (w : World) (s : ByteArray) : Calls Try.prog 106 #[.string s] w fun e w' => e = .returned (simpleV s) ∧ Below w.heap.size w w' := by
  cases h0 : beqB s (⟨#[116, 114, 117, 101]⟩ : ByteArray)
  rotate_left
  · have HV := hid (show simpleV s = .agg #[.int .i64 4, .int .i64 1, .string ⟨#[]⟩, .slice none 0 0, .slice none 0 0, .int .i64 0] by simp [simpleV, simpleB, h0])
    rw [show beqB s (⟨#[116, 114, 117, 101]⟩ : ByteArray) = (s.toList == [116, 114, 117, 101]) from (lit_beq _ _).symm] at h0
    go_enter Try.func106, Try.ntmps106
    go_wp2_with fail
    exact bodyPost_ret (v := .agg #[.int .i64 4, .int .i64 1, .string ⟨#[]⟩, .slice none 0 0, .slice none 0 0, .int .i64 0]) (by simp [results, Try.results106, go_sem]) rfl ⟨by rw [HV.out], (Below.refl _ _).alloc (Nat.le_refl _) _⟩
  cases h1 : beqB s (⟨#[102, 97, 108, 115, 101]⟩ : ByteArray)
  rotate_left
  · have HV := hid (show simpleV s = .agg #[.int .i64 4, .int .i64 0, .string ⟨#[]⟩, .slice none 0 0, .slice none 0 0, .int .i64 0] by simp [simpleV, simpleB, h0, h1])
    rw [show beqB s (⟨#[116, 114, 117, 101]⟩ : ByteArray) = (s.toList == [116, 114, 117, 101]) from (lit_beq _ _).symm] at h0
    rw [show beqB s (⟨#[102, 97, 108, 115, 101]⟩ : ByteArray) = (s.toList == [102, 97, 108, 115, 101]) from (lit_beq _ _).symm] at h1
    go_enter Try.func106, Try.ntmps106
    go_wp2_with fail
    exact bodyPost_ret (v := .agg #[.int .i64 4, .int .i64 0, .string ⟨#[]⟩, .slice none 0 0, .slice none 0 0, .int .i64 0]) (by simp [results, Try.results106, go_sem]) rfl ⟨by rw [HV.out], (Below.refl _ _).alloc (Nat.le_refl _) _⟩
  cases h2 : beqB s (⟨#[110, 117, 108, 108]⟩ : ByteArray)
  rotate_left
  · have HV := hid (show simpleV s = .agg #[.int .i64 5, .int .i64 0, .string ⟨#[]⟩, .slice none 0 0, .slice none 0 0, .int .i64 0] by simp [simpleV, simpleB, h0, h1, h2])
    rw [show beqB s (⟨#[116, 114, 117, 101]⟩ : ByteArray) = (s.toList == [116, 114, 117, 101]) from (lit_beq _ _).symm] at h0
    rw [show beqB s (⟨#[102, 97, 108, 115, 101]⟩ : ByteArray) = (s.toList == [102, 97, 108, 115, 101]) from (lit_beq _ _).symm] at h1
    rw [show beqB s (⟨#[110, 117, 108, 108]⟩ : ByteArray) = (s.toList == [110, 117, 108, 108]) from (lit_beq _ _).symm] at h2
    go_enter Try.func106, Try.ntmps106
    go_wp2_with fail
    exact bodyPost_ret (v := .agg #[.int .i64 5, .int .i64 0, .string ⟨#[]⟩, .slice none 0 0, .slice none 0 0, .int .i64 0]) (by simp [results, Try.results106, go_sem]) rfl ⟨by rw [HV.out], (Below.refl _ _).alloc (Nat.le_refl _) _⟩
  cases h3 : beqB s (⟨#[117, 110, 100, 101, 102, 105, 110, 101, 100]⟩ : ByteArray)
  rotate_left
  · have HV := hid (show simpleV s = .agg #[.int .i64 6, .int .i64 0, .string ⟨#[]⟩, .slice none 0 0, .slice none 0 0, .int .i64 0] by simp [simpleV, simpleB, h0, h1, h2, h3])
    rw [show beqB s (⟨#[116, 114, 117, 101]⟩ : ByteArray) = (s.toList == [116, 114, 117, 101]) from (lit_beq _ _).symm] at h0
    rw [show beqB s (⟨#[102, 97, 108, 115, 101]⟩ : ByteArray) = (s.toList == [102, 97, 108, 115, 101]) from (lit_beq _ _).symm] at h1
    rw [show beqB s (⟨#[110, 117, 108, 108]⟩ : ByteArray) = (s.toList == [110, 117, 108, 108]) from (lit_beq _ _).symm] at h2
    rw [show beqB s (⟨#[117, 110, 100, 101, 102, 105, 110, 101, 100]⟩ : ByteArray) = (s.toList == [117, 110, 100, 101, 102, 105, 110, 101, 100]) from (lit_beq _ _).symm] at h3
    go_enter Try.func106, Try.ntmps106
    go_wp2_with fail
    exact bodyPost_ret (v := .agg #[.int .i64 6, .int .i64 0, .string ⟨#[]⟩, .slice none 0 0, .slice none 0 0, .int .i64 0]) (by simp [results, Try.results106, go_sem]) rfl ⟨by rw [HV.out], (Below.refl _ _).alloc (Nat.le_refl _) _⟩
  cases h4 : beqB s (⟨#[116, 104, 105, 115]⟩ : ByteArray)
  rotate_left
  · have HV := hid (show simpleV s = .agg #[.int .i64 7, .int .i64 0, .string ⟨#[]⟩, .slice none 0 0, .slice none 0 0, .int .i64 0] by simp [simpleV, simpleB, h0, h1, h2, h3, h4])
    rw [show beqB s (⟨#[116, 114, 117, 101]⟩ : ByteArray) = (s.toList == [116, 114, 117, 101]) from (lit_beq _ _).symm] at h0
    rw [show beqB s (⟨#[102, 97, 108, 115, 101]⟩ : ByteArray) = (s.toList == [102, 97, 108, 115, 101]) from (lit_beq _ _).symm] at h1
    rw [show beqB s (⟨#[110, 117, 108, 108]⟩ : ByteArray) = (s.toList == [110, 117, 108, 108]) from (lit_beq _ _).symm] at h2
    rw [show beqB s (⟨#[117, 110, 100, 101, 102, 105, 110, 101, 100]⟩ : ByteArray) = (s.toList == [117, 110, 100, 101, 102, 105, 110, 101, 100]) from (lit_beq _ _).symm] at h3
    rw [show beqB s (⟨#[116, 104, 105, 115]⟩ : ByteArray) = (s.toList == [116, 104, 105, 115]) from (lit_beq _ _).symm] at h4
    go_enter Try.func106, Try.ntmps106
    go_wp2_with fail
    exact bodyPost_ret (v := .agg #[.int .i64 7, .int .i64 0, .string ⟨#[]⟩, .slice none 0 0, .slice none 0 0, .int .i64 0]) (by simp [results, Try.results106, go_sem]) rfl ⟨by rw [HV.out], (Below.refl _ _).alloc (Nat.le_refl _) _⟩
  have HV := hid (show simpleV s = .agg #[.int .i64 0, .int .i64 0, .string ⟨#[]⟩, .slice none 0 0, .slice none 0 0, .int .i64 0] by simp [simpleV, simpleB, h0, h1, h2, h3, h4])
  rw [show beqB s (⟨#[116, 114, 117, 101]⟩ : ByteArray) = (s.toList == [116, 114, 117, 101]) from (lit_beq _ _).symm] at h0
  rw [show beqB s (⟨#[102, 97, 108, 115, 101]⟩ : ByteArray) = (s.toList == [102, 97, 108, 115, 101]) from (lit_beq _ _).symm] at h1
  rw [show beqB s (⟨#[110, 117, 108, 108]⟩ : ByteArray) = (s.toList == [110, 117, 108, 108]) from (lit_beq _ _).symm] at h2
  rw [show beqB s (⟨#[117, 110, 100, 101, 102, 105, 110, 101, 100]⟩ : ByteArray) = (s.toList == [117, 110, 100, 101, 102, 105, 110, 101, 100]) from (lit_beq _ _).symm] at h3
  rw [show beqB s (⟨#[116, 104, 105, 115]⟩ : ByteArray) = (s.toList == [116, 104, 105, 115]) from (lit_beq _ _).symm] at h4
  go_enter Try.func106, Try.ntmps106
  go_wp2_with fail
  exact bodyPost_ret (v := .agg #[.int .i64 0, .int .i64 0, .string ⟨#[]⟩, .slice none 0 0, .slice none 0 0, .int .i64 0]) (by simp [results, Try.results106, go_sem]) rfl ⟨by rw [HV.out], (Below.refl _ _).alloc (Nat.le_refl _) _⟩
end Go.Proofs.Yticbjhicjegfoaa.Q
