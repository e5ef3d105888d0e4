/- What a proof further on needs (part g). -/
import Derived.BigQuiet
import Derived.Deep.CutBlock
import Derived.Deep.QuietTactic
import Derived.Deep.RegionHeld3
import Derived.Laws.BitsLemmas
import Derived.Lib.SliceRun
import Derived.OrdersHeld
import Derived.RowKit
import Derived.StillTailTactics
import Derived.Test.YtibepkblgliooaaKa
import Derived.Test.YtibepkblgliooaaKb
import Derived.Test.YtibepkblgliooaaKc
import Derived.Test.YtibepkblgliooaaKd
import Derived.Test.YtibepkblgliooaaKf
set_option linter.unusedVariables false
namespace Go.Proofs.Ytibepkblgliooaa.Q
open Go.RowKit
open Go.Proofs.YtibepkblgliooaaW.PrintWords
/-- The rows of signs in memory, in blocks from n0 on. -/
def RowsAt (w : World) (n0 n1 b : Nat) : Prop := (n0 ≤ b ∧ b < n1) ∧ ∀ (i : Nat) (l : List ByteArray), rowsL[i]? = some l → ∃ bl, (n0 ≤ bl ∧ bl < n1) ∧ w.cell? ⟨b, i, none⟩ = some (.slice (some ⟨bl, 0, none⟩) l.length l.length) ∧ TextsAt w bl l
set_option maxHeartbeats 1600000 in
set_option maxRecDepth 100000 in
theorem rows_c (w : World) : Calls Try.prog 97 #[] w fun e w' => ∃ b, e = .returned (.slice (some ⟨b, 0, none⟩) 6 6) ∧ RowsAt w' w.heap.size w'.heap.size b ∧ Below w.heap.size w w' := by
  go_enter Try.func97, Try.ntmps97
  go_wp2_with fail
  go_ret
  refine ⟨_, rfl, ⟨⟨by omega, by simp⟩, ?_⟩, ?_⟩
  · intro i l hi
    rcases i with _ | _ | _ | _ | _ | _ | i
    · obtain rfl : [(⟨#[124, 124]⟩ : ByteArray)] = l := by simpa [rowsL] using hi
      refine ⟨w.heap.size, ⟨by omega, by simp; try omega⟩, by simp [go_sem], fun j s hj => ?_⟩
      rcases j with _ | j
      · obtain rfl : (⟨#[124, 124]⟩ : ByteArray) = s := by simpa using hj
        simp [go_sem]
      · simp at hj
    · obtain rfl : [(⟨#[38, 38]⟩ : ByteArray)] = l := by simpa [rowsL] using hi
      refine ⟨w.heap.size + 1, ⟨by omega, by simp; try omega⟩, by simp [go_sem], fun j s hj => ?_⟩
      rcases j with _ | j
      · obtain rfl : (⟨#[38, 38]⟩ : ByteArray) = s := by simpa using hj
        simp [go_sem]
      · simp at hj
    · obtain rfl : [(⟨#[61, 61, 61]⟩ : ByteArray), (⟨#[33, 61, 61]⟩ : ByteArray)] = l := by simpa [rowsL] using hi
      refine ⟨w.heap.size + 1 + 1, ⟨by omega, by simp; try omega⟩, by simp [go_sem], fun j s hj => ?_⟩
      rcases j with _ | _ | j
      · obtain rfl : (⟨#[61, 61, 61]⟩ : ByteArray) = s := by simpa using hj
        simp [go_sem]
      · obtain rfl : (⟨#[33, 61, 61]⟩ : ByteArray) = s := by simpa using hj
        simp [go_sem]
      · simp at hj
    · obtain rfl : [(⟨#[60]⟩ : ByteArray), (⟨#[60, 61]⟩ : ByteArray), (⟨#[62]⟩ : ByteArray), (⟨#[62, 61]⟩ : ByteArray)] = l := by simpa [rowsL] using hi
      refine ⟨w.heap.size + 1 + 1 + 1, ⟨by omega, by simp; try omega⟩, by simp [go_sem], fun j s hj => ?_⟩
      rcases j with _ | _ | _ | _ | j
      · obtain rfl : (⟨#[60]⟩ : ByteArray) = s := by simpa using hj
        simp [go_sem]
      · obtain rfl : (⟨#[60, 61]⟩ : ByteArray) = s := by simpa using hj
        simp [go_sem]
      · obtain rfl : (⟨#[62]⟩ : ByteArray) = s := by simpa using hj
        simp [go_sem]
      · obtain rfl : (⟨#[62, 61]⟩ : ByteArray) = s := by simpa using hj
        simp [go_sem]
      · simp at hj
    · obtain rfl : [(⟨#[43]⟩ : ByteArray), (⟨#[45]⟩ : ByteArray)] = l := by simpa [rowsL] using hi
      refine ⟨w.heap.size + 1 + 1 + 1 + 1, ⟨by omega, by simp; try omega⟩, by simp [go_sem], fun j s hj => ?_⟩
      rcases j with _ | _ | j
      · obtain rfl : (⟨#[43]⟩ : ByteArray) = s := by simpa using hj
        simp [go_sem]
      · obtain rfl : (⟨#[45]⟩ : ByteArray) = s := by simpa using hj
        simp [go_sem]
      · simp at hj
    · obtain rfl : [(⟨#[42]⟩ : ByteArray), (⟨#[47]⟩ : ByteArray), (⟨#[37]⟩ : ByteArray)] = l := by simpa [rowsL] using hi
      refine ⟨w.heap.size + 1 + 1 + 1 + 1 + 1, ⟨by omega, by simp; try omega⟩, by simp [go_sem], fun j s hj => ?_⟩
      rcases j with _ | _ | _ | j
      · obtain rfl : (⟨#[42]⟩ : ByteArray) = s := by simpa using hj
        simp [go_sem]
      · obtain rfl : (⟨#[47]⟩ : ByteArray) = s := by simpa using hj
        simp [go_sem]
      · obtain rfl : (⟨#[37]⟩ : ByteArray) = s := by simpa using hj
        simp [go_sem]
      · simp at hj
    · simp [rowsL] at hi
  · exact (((((((Below.refl _ _).alloc (Nat.le_refl _) _).alloc (by simp) _).alloc (by simp; omega) _).alloc (by simp; omega) _).alloc (by simp; omega) _).alloc (by simp; omega) _).alloc (by simp; omega) _
/-- The rows of signs, beside the parser. -/
def Beside (w : World) (a : Nat) (ok : Nat → Prop) (b : Nat) : Prop := ∃ n0 n1, RowsAt w n0 n1 b ∧ n1 ≤ w.heap.size ∧ ∀ k, n0 ≤ k → k < n1 → ¬ ok k ∧ k ≠ a
theorem Beside.start {w w1 : World} {a b : Nat} {ok : Nat → Prop} (h : RowsAt w1 w.heap.size w1.heap.size b) (hlo : ∀ k, ok k → k < w.heap.size) (ha : a < w.heap.size) : Beside w1 a ok b :=
  ⟨_, _, h, Nat.le_refl _, fun k h1 _ => ⟨fun h2 => by have := hlo k h2; omega, by omega⟩⟩
theorem Beside.mv {w w' : World} {a b : Nat} {ok ok' : Nat → Prop} (h : Beside w a ok b) (m : Mv w a ok w' ok') : Beside w' a ok' b := by
  obtain ⟨n0, n1, ⟨hb, hr⟩, hn, ho⟩ := h
  have keep : ∀ (k j : Nat) (u : Value), n0 ≤ k → k < n1 → w.cell? ⟨k, j, none⟩ = some u → w'.cell? ⟨k, j, none⟩ = some u := fun k j u h1 h2 hc =>
    cell_kept hc m.kp.kept (fun h => h.elim (ho k h1 h2).2 (ho k h1 h2).1)
  refine ⟨n0, n1, ⟨hb, fun i l hi => ?_⟩, Nat.le_trans hn m.kp.size, fun k h1 h2 => ⟨fun h => (m.sub k h).elim (ho k h1 h2).1 (fun h' => by omega), (ho k h1 h2).2⟩⟩
  obtain ⟨bl, hbl, hc, ht⟩ := hr i l hi
  exact ⟨bl, hbl, keep _ _ _ hb.1 hb.2 hc, fun j s hj => keep _ _ _ hbl.1 hbl.2 (ht j s hj)⟩
theorem Beside.row {w : World} {a b : Nat} {ok : Nat → Prop} (h : Beside w a ok b) {i : Nat} {l : List ByteArray} (hi : rowsL[i]? = some l) : ∃ bl, w.cell? ⟨b, i, none⟩ = some (.slice (some ⟨bl, 0, none⟩) l.length l.length) ∧ TextsAt w bl l := by
  obtain ⟨n0, n1, ⟨_, hr⟩, _, _⟩ := h
  obtain ⟨bl, _, h1, h2⟩ := hr i l hi
  exact ⟨bl, h1, h2⟩
theorem Beside.below {w w' : World} {a b : Nat} {ok : Nat → Prop} (h : Beside w a ok b) (hb : Below w.heap.size w w') : Beside w' a ok b :=
  h.mv ⟨Kp.of_below hb, fun _ h => .inl h⟩
/-- A word that is an expression. -/
def simpleV (s : ByteArray) : Value := match simpleB s with
  | some q => .agg #[.int .i64 q.1, .int .i64 q.2, .string ⟨#[]⟩, .slice none 0 0, .slice none 0 0, .int .i64 0]
  | none => .agg #[.int .i64 0, .int .i64 0, .string ⟨#[]⟩, .slice none 0 0, .slice none 0 0, .int .i64 0]
set_option maxHeartbeats 1600000 in
set_option maxRecDepth 100000 in
theorem simple_c (w : World) (s : ByteArray) : Calls Try.prog 102 #[.string s] w fun e w' => e = .returned (simpleV s) ∧ Below w.heap.size w w' := by
  cases h0 : beqB s (⟨#[116, 114, 117, 101]⟩ : ByteArray)
  rotate_left
  · have HV := hid (show simpleV s = .agg #[.int .i64 4, .int .i64 1, .string ⟨#[]⟩, .slice none 0 0, .slice none 0 0, .int .i64 0] by simp [simpleV, simpleB, h0])
    rw [show beqB s (⟨#[116, 114, 117, 101]⟩ : ByteArray) = (s.toList == [116, 114, 117, 101]) from (lit_beq _ _).symm] at h0
    go_enter Try.func102, Try.ntmps102
    go_wp2_with fail
    exact bodyPost_ret (v := .agg #[.int .i64 4, .int .i64 1, .string ⟨#[]⟩, .slice none 0 0, .slice none 0 0, .int .i64 0]) (by simp [results, Try.results102, go_sem]) rfl ⟨by rw [HV.out], (Below.refl _ _).alloc (Nat.le_refl _) _⟩
  cases h1 : beqB s (⟨#[102, 97, 108, 115, 101]⟩ : ByteArray)
  rotate_left
  · have HV := hid (show simpleV s = .agg #[.int .i64 4, .int .i64 0, .string ⟨#[]⟩, .slice none 0 0, .slice none 0 0, .int .i64 0] by simp [simpleV, simpleB, h0, h1])
    rw [show beqB s (⟨#[116, 114, 117, 101]⟩ : ByteArray) = (s.toList == [116, 114, 117, 101]) from (lit_beq _ _).symm] at h0
    rw [show beqB s (⟨#[102, 97, 108, 115, 101]⟩ : ByteArray) = (s.toList == [102, 97, 108, 115, 101]) from (lit_beq _ _).symm] at h1
    go_enter Try.func102, Try.ntmps102
    go_wp2_with fail
    exact bodyPost_ret (v := .agg #[.int .i64 4, .int .i64 0, .string ⟨#[]⟩, .slice none 0 0, .slice none 0 0, .int .i64 0]) (by simp [results, Try.results102, go_sem]) rfl ⟨by rw [HV.out], (Below.refl _ _).alloc (Nat.le_refl _) _⟩
  cases h2 : beqB s (⟨#[110, 117, 108, 108]⟩ : ByteArray)
  rotate_left
  · have HV := hid (show simpleV s = .agg #[.int .i64 5, .int .i64 0, .string ⟨#[]⟩, .slice none 0 0, .slice none 0 0, .int .i64 0] by simp [simpleV, simpleB, h0, h1, h2])
    rw [show beqB s (⟨#[116, 114, 117, 101]⟩ : ByteArray) = (s.toList == [116, 114, 117, 101]) from (lit_beq _ _).symm] at h0
    rw [show beqB s (⟨#[102, 97, 108, 115, 101]⟩ : ByteArray) = (s.toList == [102, 97, 108, 115, 101]) from (lit_beq _ _).symm] at h1
    rw [show beqB s (⟨#[110, 117, 108, 108]⟩ : ByteArray) = (s.toList == [110, 117, 108, 108]) from (lit_beq _ _).symm] at h2
    go_enter Try.func102, Try.ntmps102
    go_wp2_with fail
    exact bodyPost_ret (v := .agg #[.int .i64 5, .int .i64 0, .string ⟨#[]⟩, .slice none 0 0, .slice none 0 0, .int .i64 0]) (by simp [results, Try.results102, go_sem]) rfl ⟨by rw [HV.out], (Below.refl _ _).alloc (Nat.le_refl _) _⟩
  cases h3 : beqB s (⟨#[117, 110, 100, 101, 102, 105, 110, 101, 100]⟩ : ByteArray)
  rotate_left
  · have HV := hid (show simpleV s = .agg #[.int .i64 6, .int .i64 0, .string ⟨#[]⟩, .slice none 0 0, .slice none 0 0, .int .i64 0] by simp [simpleV, simpleB, h0, h1, h2, h3])
    rw [show beqB s (⟨#[116, 114, 117, 101]⟩ : ByteArray) = (s.toList == [116, 114, 117, 101]) from (lit_beq _ _).symm] at h0
    rw [show beqB s (⟨#[102, 97, 108, 115, 101]⟩ : ByteArray) = (s.toList == [102, 97, 108, 115, 101]) from (lit_beq _ _).symm] at h1
    rw [show beqB s (⟨#[110, 117, 108, 108]⟩ : ByteArray) = (s.toList == [110, 117, 108, 108]) from (lit_beq _ _).symm] at h2
    rw [show beqB s (⟨#[117, 110, 100, 101, 102, 105, 110, 101, 100]⟩ : ByteArray) = (s.toList == [117, 110, 100, 101, 102, 105, 110, 101, 100]) from (lit_beq _ _).symm] at h3
    go_enter Try.func102, Try.ntmps102
    go_wp2_with fail
    exact bodyPost_ret (v := .agg #[.int .i64 6, .int .i64 0, .string ⟨#[]⟩, .slice none 0 0, .slice none 0 0, .int .i64 0]) (by simp [results, Try.results102, go_sem]) rfl ⟨by rw [HV.out], (Below.refl _ _).alloc (Nat.le_refl _) _⟩
  cases h4 : beqB s (⟨#[116, 104, 105, 115]⟩ : ByteArray)
  rotate_left
  · have HV := hid (show simpleV s = .agg #[.int .i64 7, .int .i64 0, .string ⟨#[]⟩, .slice none 0 0, .slice none 0 0, .int .i64 0] by simp [simpleV, simpleB, h0, h1, h2, h3, h4])
    rw [show beqB s (⟨#[116, 114, 117, 101]⟩ : ByteArray) = (s.toList == [116, 114, 117, 101]) from (lit_beq _ _).symm] at h0
    rw [show beqB s (⟨#[102, 97, 108, 115, 101]⟩ : ByteArray) = (s.toList == [102, 97, 108, 115, 101]) from (lit_beq _ _).symm] at h1
    rw [show beqB s (⟨#[110, 117, 108, 108]⟩ : ByteArray) = (s.toList == [110, 117, 108, 108]) from (lit_beq _ _).symm] at h2
    rw [show beqB s (⟨#[117, 110, 100, 101, 102, 105, 110, 101, 100]⟩ : ByteArray) = (s.toList == [117, 110, 100, 101, 102, 105, 110, 101, 100]) from (lit_beq _ _).symm] at h3
    rw [show beqB s (⟨#[116, 104, 105, 115]⟩ : ByteArray) = (s.toList == [116, 104, 105, 115]) from (lit_beq _ _).symm] at h4
    go_enter Try.func102, Try.ntmps102
    go_wp2_with fail
    exact bodyPost_ret (v := .agg #[.int .i64 7, .int .i64 0, .string ⟨#[]⟩, .slice none 0 0, .slice none 0 0, .int .i64 0]) (by simp [results, Try.results102, go_sem]) rfl ⟨by rw [HV.out], (Below.refl _ _).alloc (Nat.le_refl _) _⟩
  have HV := hid (show simpleV s = .agg #[.int .i64 0, .int .i64 0, .string ⟨#[]⟩, .slice none 0 0, .slice none 0 0, .int .i64 0] by simp [simpleV, simpleB, h0, h1, h2, h3, h4])
  rw [show beqB s (⟨#[116, 114, 117, 101]⟩ : ByteArray) = (s.toList == [116, 114, 117, 101]) from (lit_beq _ _).symm] at h0
  rw [show beqB s (⟨#[102, 97, 108, 115, 101]⟩ : ByteArray) = (s.toList == [102, 97, 108, 115, 101]) from (lit_beq _ _).symm] at h1
  rw [show beqB s (⟨#[110, 117, 108, 108]⟩ : ByteArray) = (s.toList == [110, 117, 108, 108]) from (lit_beq _ _).symm] at h2
  rw [show beqB s (⟨#[117, 110, 100, 101, 102, 105, 110, 101, 100]⟩ : ByteArray) = (s.toList == [117, 110, 100, 101, 102, 105, 110, 101, 100]) from (lit_beq _ _).symm] at h3
  rw [show beqB s (⟨#[116, 104, 105, 115]⟩ : ByteArray) = (s.toList == [116, 104, 105, 115]) from (lit_beq _ _).symm] at h4
  go_enter Try.func102, Try.ntmps102
  go_wp2_with fail
  exact bodyPost_ret (v := .agg #[.int .i64 0, .int .i64 0, .string ⟨#[]⟩, .slice none 0 0, .slice none 0 0, .int .i64 0]) (by simp [results, Try.results102, go_sem]) rfl ⟨by rw [HV.out], (Below.refl _ _).alloc (Nat.le_refl _) _⟩
end Go.Proofs.Ytibepkblgliooaa.Q
namespace Go.Proofs.Ytibepkblgliooaa.Q
open Go.RowKit
open Go.Proofs.YtibepkblgliooaaW.PrintWords
/-- A block of the call's own, of one node. -/
def NB (n0 : Nat) (w : World) (a : Nat) (ok : Nat → Prop) (b : Nat) (cs : Array Value) : Prop := w.heap[b]? = some (.cells cs 37 (0, 0)) ∧ n0 ≤ b ∧ b ≠ a ∧ ¬ ok b
section
variable {w0 w w' : World} {a b n0 n2 : Nat} {ok0 ok ok' : Nat → Prop} {v val : Value} {S : Ps} {cs cs' : Array Value} {ks : List Nat}
theorem NB.new (h : At w0 a ok0 w ok v S) (cs : Array Value) : NB w0.heap.size (w.alloc (.cells cs 37)) a ok w.heap.size cs :=
  ⟨heap_alloc_new _ _, h.kp.size, fun e => by have := h.p.lt; omega, fun ho => by have := h.p.lo _ ho; omega⟩
theorem NB.mv (h : NB n0 w a ok b cs) (m : Mv w a ok w' ok') : NB n0 w' a ok' b cs :=
  ⟨m.kp.heap h.1 (fun q => q.elim h.2.2.1 h.2.2.2), h.2.1, h.2.2.1, fun ho => (m.sub b ho).elim h.2.2.2 (fun q => by have := (Array.getElem?_eq_some_iff.1 h.1).1; omega)⟩
theorem NB.lt (h : NB n0 w a ok b cs) : b < w.heap.size := (Array.getElem?_eq_some_iff.1 h.1).1
theorem NB.below (h : NB n0 w a ok b cs) (hb : Below w.heap.size w w') : NB n0 w' a ok b cs := ⟨(hb.block b h.lt).trans h.1, h.2⟩
theorem NB.set (h : NB n0 w a ok b cs) (i : Nat) (u : Value) (e : cs.setIfInBounds i u = cs') : NB n0 (w.setCell ⟨b, i, none⟩ u) a ok b cs' := ⟨blk_put h.1 i u e, h.2⟩
theorem NB.c (h : NB n0 w a ok b cs) {i : Nat} {u : Value} (hu : cs[i]? = some u) : w.cell? ⟨b, i, none⟩ = some u := (cell_of_row _ _ _ _ _ _ h.1).trans hu
theorem NB.f (h : NB n0 w a ok b cs) (i : Nat) : w.frozen? ⟨b, i, none⟩ = false := by simp [World.frozen?, h.1]
/-- A store into it: the parser stays. -/
theorem At.setB (h : At w0 a ok0 w ok v S) (hb : NB w0.heap.size w a ok b cs) (i : Nat) (u : Value) : At w0 a ok0 (w.setCell ⟨b, i, none⟩ u) ok v S := by
  have hk : Kp (fun k => k = b) w (w.setCell ⟨b, i, none⟩ u) := Kp.set (p := ⟨b, i, none⟩) u rfl
  exact ⟨h.p.kept hk (fun e => hb.2.2.1 e.symm) (fun k hk e => hb.2.2.2 (e ▸ hk)), h.kp.trans hk (fun k e => .inr (by rw [e]; exact hb.2.1)), h.sub⟩
/-- A row made later stays. -/
theorem LR.setB (h : LR n2 w a ok val ks) (hb : b < n2) (i : Nat) (u : Value) : LR n2 (w.setCell ⟨b, i, none⟩ u) a ok val ks := by
  obtain ⟨okl, h1, h2⟩ := h
  exact ⟨okl, Kd.N_far (p := ⟨b, i, none⟩) h1 (fun k hk (e : k = b) => by have := (h2 k hk).1; omega) u, fun k hk => ⟨(h2 k hk).1, by simpa using (h2 k hk).2.1, (h2 k hk).2.2⟩⟩
end
theorem simpleB_pos {s : ByteArray} {q : Int × Int} (h : simpleB s = some q) : 0 < q.1 := by
  unfold simpleB at h
  repeat' (split at h)
  all_goals first | (cases h; decide) | cases h
end Go.Proofs.Ytibepkblgliooaa.Q
namespace Go.Proofs.Ytibepkblgliooaa.Q
open Go.RowKit
open Go.Proofs.YtibepkblgliooaaW.PrintWords
theorem N_tightS {e base : Nat} {ok : Nat → Prop} {w : World} {v : Value} {xs : List ByteArray} (h : Kd.N Kd.string e w base ok v xs) : Kd.N Kd.string e w base (fun k => some k = v.ownBlock) v xs := by
  obtain ⟨h0, rows, hl, hR, hf⟩ := h
  exact ⟨fun k hk => hk.symm, rows, hl, hR, fun j x c hx hc W' _ => by have h1 := Kd.FK_now (hf j x c hx hc); exact h1⟩
theorem N_tightI {e base : Nat} {ok : Nat → Prop} {w : World} {v : Value} {xs : List Int} (h : Kd.N (Kd.int .i64) e w base ok v xs) : Kd.N (Kd.int .i64) e w base (fun k => some k = v.ownBlock) v xs := by
  obtain ⟨h0, rows, hl, hR, hf⟩ := h
  exact ⟨fun k hk => hk.symm, rows, hl, hR, fun j x c hx hc W' _ => by have h1 := Kd.FK_now (hf j x c hx hc); exact h1⟩
theorem N_typ {α : Type} {d : Kd α} {e base k : Nat} {ok : Nat → Prop} {w : World} {v : Value} {xs : List α} (h : Kd.N d e w base ok v xs) (hk : v.ownBlock = some k) : ∃ cells, w.heap[k]? = some (.cells cells e (0, 0)) := by
  obtain ⟨_, rows, _, hR, _⟩ := h
  obtain ⟨inner, ho⟩ := Kd.R_own hR
  exact own_typed ho k hk
/-- A row of texts of the call's own, made since there were n0 blocks. -/
def SR (n0 : Nat) (w : World) (a : Nat) (ok : Nat → Prop) (val : Value) (l : List ByteArray) : Prop :=
  Kd.N Kd.string 9 w 0 (fun k => some k = val.ownBlock) val l ∧ ∀ k, val.ownBlock = some k → n0 ≤ k ∧ k < w.heap.size ∧ ¬ ok k ∧ k ≠ a
section
variable {w0 w w' w1 : World} {a b n0 n1 n2 : Nat} {ok0 ok ok' : Nat → Prop} {v val val1 val2 : Value} {S S' : Ps} {l : List ByteArray} {ks : List Nat} {cs : Array Value} {t : ByteArray} {k : Nat}
theorem SR.nil (n0 : Nat) (w : World) (a : Nat) (ok : Nat → Prop) : SR n0 w a ok (.slice none 0 0) [] := ⟨N_tightS (ok := fun _ => False) (Kd.R_N (Kd.R_nil _ _ _ _ _)), fun k hk => by simp [Value.ownBlock] at hk⟩
theorem SR.keep (h : SR n0 w a ok val l) (hk : ∀ k, val.ownBlock = some k → w'.heap[k]? = w.heap[k]?) (hs : w.heap.size ≤ w'.heap.size) (ho : ∀ k, ok' k → ok k ∨ w.heap.size ≤ k) : SR n0 w' a ok' val l :=
  ⟨Kd.N_step h.1 (fun k hk' _ => hk k hk'.symm), fun k hk' => ⟨(h.2 k hk').1, Nat.lt_of_lt_of_le (h.2 k hk').2.1 hs, fun hok => (ho k hok).elim (h.2 k hk').2.2.1 (fun q => by have := (h.2 k hk').2.1; omega), (h.2 k hk').2.2.2⟩⟩
theorem SR.mv (h : SR n0 w a ok val l) (m : Mv w a ok w' ok') : SR n0 w' a ok' val l := h.keep (fun k hk => m.kp.block k (h.2 k hk).2.1 (fun q => q.elim (h.2 k hk).2.2.2 (h.2 k hk).2.2.1)) m.kp.size m.sub
theorem SR.below (h : SR n0 w a ok val l) (hb : Below w.heap.size w w') : SR n0 w' a ok val l := h.keep (fun k hk => hb.block k (h.2 k hk).2.1) hb.size (fun _ h => .inl h)
theorem SR.setB (h : SR n0 w a ok val l) (hb : b < n0) (i : Nat) (u : Value) : SR n0 (w.setCell ⟨b, i, none⟩ u) a ok val l := h.keep (fun k hk => Below.heap_setCell _ _ _ _ (fun e => by have := (h.2 k hk).1; have : k = b := e; omega)) (by simp) (fun _ h => .inl h)
theorem SR.slice (h : SR n0 w a ok val l) : ∃ A c, val = .slice A l.length c := Kd.N_slice h.1
theorem SR.le (h : SR n0 w a ok val l) (hn : n1 ≤ n0) : SR n1 w a ok val l := ⟨h.1, fun k hk => ⟨Nat.le_trans hn (h.2 k hk).1, (h.2 k hk).2⟩⟩
theorem NB.grown (h : NB n2 w a ok b cs) (hl : SR n0 w a ok val l) (hb : b < n0) (hg : w.grownBy w1 val.ownBlock) : NB n2 w1 a ok b cs := ⟨(hg.block b h.lt (fun e => by have := (hl.2 b e.symm).1; omega)).trans h.1, h.2⟩
theorem NB.grownL (h : NB n2 w a ok b cs) (hl : LR n0 w a ok val ks) (hb : b < n0) (hg : w.grownBy w1 val.ownBlock) : NB n2 w1 a ok b cs := by
  obtain ⟨okl, h1, h2⟩ := hl
  exact ⟨(hg.block b h.lt (fun e => by have := (h2 b (h1.1 b e.symm)).1; omega)).trans h.1, h.2⟩
theorem At.grownS (h : At w0 a ok0 w ok v S) (hl : SR n0 w a ok val l) (h0 : w0.heap.size ≤ n0) (hg : w.grownBy w1 val.ownBlock) : At w0 a ok0 w1 ok v S := by
  have hk : Kp (fun k => val.ownBlock = some k) w w1 := Kp.grown hg (fun k e => e)
  exact ⟨h.p.kept hk (fun e => (hl.2 a e).2.2.2 rfl) (fun k hk' e => (hl.2 k e).2.2.1 hk'), h.kp.trans hk (fun k e => .inr (Nat.le_trans h0 (hl.2 k e).1)), h.sub⟩
/-- The other row has grown. -/
theorem SR.grownL (h : SR n0 w a ok val l) (hl : LR n2 w a ok val2 ks) (hg : w.grownBy w1 val2.ownBlock) : SR n0 w1 a ok val l := by
  obtain ⟨okl, h1, _⟩ := hl
  refine h.keep (fun k hk => hg.block k (h.2 k hk).2.1 (fun e => ?_)) hg.size (fun _ h => .inl h)
  obtain ⟨c1, e1⟩ := N_typ h.1 hk
  obtain ⟨c2, e2⟩ := N_typ h1 e.symm
  rw [e1] at e2
  injection e2 with e2
  injection e2 with _ e2
  exact absurd e2 (by decide)
theorem LR.grownS (hl : LR n2 w a ok val2 ks) (h : SR n0 w a ok val l) (hg : w.grownBy w1 val.ownBlock) : LR n2 w1 a ok val2 ks := by
  obtain ⟨okl, h1, h2⟩ := hl
  refine ⟨_, Kd.N_step (N_tightI h1) (fun k hk hlt => hg.block k hlt (fun e => ?_)), fun k hk => ?_⟩
  · obtain ⟨c1, e1⟩ := N_typ h.1 e.symm
    obtain ⟨c2, e2⟩ := N_typ h1 hk.symm
    rw [e1] at e2
    injection e2 with e2
    injection e2 with _ e2
    exact absurd e2 (by decide)
  · have := h2 k (h1.1 k hk.symm)
    exact ⟨this.1, Nat.lt_of_lt_of_le this.2.1 hg.size, this.2.2⟩
/-- A node with names and kids beside the parser. -/
theorem put_both (h : At w0 a ok0 w ok v S) (hs : SR w0.heap.size w a ok val l) (hl : LR w0.heap.size w a ok val2 ks) {kind num : Int} {text : ByteArray} {at_ : Nat} (hp : S.put ⟨kind, num, text, l, ks, at_⟩ = some (k, S')) :
    Calls Try.prog 16 #[ptr a, .agg #[.int .i64 kind, .int .i64 num, .string text, val, val2, .int .i64 at_]] w fun e w' => e = .returned (.int .i64 k) ∧ Nx w0 a ok0 w' S' := by
  obtain ⟨okl, h1, h2⟩ := hl
  obtain ⟨A, c, e⟩ := Kd.N_slice h1
  obtain ⟨A3, c3, e3⟩ := hs.slice
  subst e e3
  rw [ints_length] at h1 ⊢
  refine (put_c (okp := fun k => okl k ∨ some k = (Value.slice A3 l.length c3).ownBlock) h.p (kNd_mkF w _ ⟨kind, num, text, l, ks, at_⟩ (A3 := A3) (c3 := c3) (Kd.N_reads' hs.1).2.1 (Kd.F_mono (Kd.N_F hs.1) (fun k hk => .inr hk)) (A4 := A) (c4 := c) (by have := (Kd.N_reads' h1).2.1; exact this) (Kd.F_mono (Kd.N_F h1) (fun k hk => .inl hk))) (fun k hk => hk.elim (fun q => (h2 k q).2.2) (fun q => (hs.2 k q.symm).2.2)) hp).mono ?_
  rintro e w1 ⟨rfl, hn⟩
  obtain ⟨ok', v', h4⟩ := h.put hn (fun k hk => hk.elim (fun q => (h2 k q).1) (fun q => (hs.2 k q.symm).1))
  exact ⟨rfl, h4.nx⟩
/-- What append makes of a row of texts. -/
theorem SR.grow (hp : PI w a ok v S) (h0 : n0 ≤ w.heap.size) (h : SR n0 w a ok val l) {okn : Nat → Prop} (hN : Kd.N Kd.string 9 w1 0 okn val1 (l ++ [t])) (hat : val1.ownBlock = val.ownBlock ∨ ∃ b, val1.ownBlock = some b ∧ w.heap.size ≤ b) : SR n0 w1 a ok val1 (l ++ [t]) := by
  refine ⟨N_tightS hN, fun k hk => ?_⟩
  have hlt := Kd.N_lt hN k hk
  rcases hat with hat | ⟨b, hb, hle⟩
  · rw [hat] at hk
    exact ⟨(h.2 k hk).1, hlt, (h.2 k hk).2.2⟩
  · rw [hb] at hk
    injection hk with hk
    subst hk
    exact ⟨Nat.le_trans h0 hle, hlt, fun ho => by have := hp.lo _ ho; omega, fun e => by have := hp.lt; omega⟩
end
section
variable {ops : Array Oper} {rest : List Oper} {o : Oper} {act : Act} {Q : Exit → Act → World → Prop} {Kc : Act → World → Prop} {E : Prop}
variable {w0 w : World} {a n0 : Nat} {ok0 ok : Nat → Prop} {v val : Value} {S : Ps} {l : List ByteArray} {t : ByteArray}
theorem SR.append_wp (hgd : o.guard = none) (s x : Operand) (ho : o.op = .call { callee := .builtin .append, args := #[s, x], argTypes := #[34, 34] })
    (h : At w0 a ok0 w ok v S) (hl : SR n0 w a ok val l) (h0 : w0.heap.size ≤ n0) (h1 : n0 ≤ w.heap.size) (hm : l.length < 1048576) (hs : act.eval s = val) (hx : act.eval x = .slice (some ⟨w.heap.size, 0, none⟩) 1 1)
    (hq : ∀ val1 w1, At w0 a ok0 w1 ok v S → SR n0 w1 a ok val1 (l ++ [t]) → w.grownBy w1 val.ownBlock → wpList Try.prog ops Q rest (act.put o.dst val1) w1) :
    wpList Try.prog ops Q (o :: rest) act (w.alloc (.cells #[.string t] 9)) := by
  refine Kd.N_append Kd.string (w0 := w) 0 hgd s x 34 9 (.string ⟨#[]⟩) 16 ho Try.underlying34 infoStr rfl (by decide) (by decide) val l t [.string t] (fun j => some j = val.ownBlock ∨ w.heap.size ≤ j) (fun _ => False) hs hx (fun _ _ => rfl) (fun _ hk => hk.elim) (fun _ hk => .inr hk)
    (Kd.N_mono hl.1 (fun _ hk => .inl hk)) (Below.refl _ _) (Nat.zero_le _) (by omega) ?_
  intro val1 w1 hN _ hg hat
  exact hq val1 w1 (h.grownS hl h0 hg) (SR.grow h.p h1 hl hN hat) hg
theorem SR.append_step (hw : Region.wanted o (yielded ops act.tmps) = true) (s x : Operand) (ho : o.op = .call { callee := .builtin .append, args := #[s, x], argTypes := #[34, 34] })
    (h : At w0 a ok0 w ok v S) (hl : SR n0 w a ok val l) (h0 : w0.heap.size ≤ n0) (h1 : n0 ≤ w.heap.size) (hm : l.length < 1048576) (hs : act.eval s = val) (hx : act.eval x = .slice (some ⟨w.heap.size, 0, none⟩) 1 1)
    (hq : ∀ val1 w1, At w0 a ok0 w1 ok v S → SR n0 w1 a ok val1 (l ++ [t]) → w.grownBy w1 val.ownBlock → Kc (act.put o.dst val1) w1) :
    if Region.wanted o (yielded ops act.tmps) = true then Oper.wp Try.prog o act (w.alloc (.cells #[.string t] 9)) Kc Q else E := by
  have := Kd.N_append_step (P := Try.prog) (Q := Q) Kd.string (w0 := w) 0 hw s x 34 9 (.string ⟨#[]⟩) 16 ho Try.underlying34 infoStr rfl (by decide) (by decide) val l t [.string t] (fun j => some j = val.ownBlock ∨ w.heap.size ≤ j) (fun _ => False) hs hx (fun _ _ => rfl) (fun _ hk => hk.elim) (fun _ hk => .inr hk)
    (Kd.N_mono hl.1 (fun _ hk => .inl hk)) (Below.refl _ _) (Nat.zero_le _) (by omega) (fun val1 w1 hN _ hg hat => hq val1 w1 (h.grownS hl h0 hg) (SR.grow h.p h1 hl hN hat) hg)
  rw [if_pos hw] at this ⊢
  exact this
theorem LR.append_step {ks : List Nat} {k : Nat} (hw : Region.wanted o (yielded ops act.tmps) = true) (s x : Operand) (ho : o.op = .call { callee := .builtin .append, args := #[s, x], argTypes := #[35, 35] })
    (h : At w0 a ok0 w ok v S) (hl : LR n0 w a ok val ks) (h0 : w0.heap.size ≤ n0) (h1 : n0 ≤ w.heap.size) (hm : ks.length < 1048576) (hs : act.eval s = val) (hx : act.eval x = .slice (some ⟨w.heap.size, 0, none⟩) 1 1)
    (hq : ∀ val1 w1, At w0 a ok0 w1 ok v S → LR n0 w1 a ok val1 (ks ++ [k]) → w.grownBy w1 val.ownBlock → Kc (act.put o.dst val1) w1) :
    if Region.wanted o (yielded ops act.tmps) = true then Oper.wp Try.prog o act (w.alloc (.cells #[.int .i64 k] 3)) Kc Q else E := by
  obtain ⟨okl, h3, h4⟩ := id hl
  have := Kd.N_append_step (P := Try.prog) (Q := Q) (Kd.int .i64) (w0 := w) 0 hw s x 35 3 (.int .i64 0) 8 ho Try.underlying35 infoInt rfl (by decide) (by decide) val (ints ks) (k : Int) [.int .i64 k] (fun j => okl j ∨ w.heap.size ≤ j) (fun _ => False) hs hx (fun _ _ => rfl) (fun _ hk => hk.elim) (fun _ hk => .inr hk)
    (Kd.N_mono h3 (fun _ hk => .inl hk)) (Below.refl _ _) (Nat.zero_le _) (by rw [ints_length]; omega) (fun val1 w1 hN _ hg _ => by
      have e : ints ks ++ [(k : Int)] = ints (ks ++ [k]) := by simp [ints]
      rw [e] at hN
      exact hq val1 w1 (h.grown hl h0 hg) (LR.grow h.p h1 h4 hN) hg)
  rw [if_pos hw] at this ⊢
  exact this
end
end Go.Proofs.Ytibepkblgliooaa.Q
namespace Go.Proofs.Ytibepkblgliooaa.Q
open Go.RowKit
open Go.Proofs.YtibepkblgliooaaW.PrintWords
/-- A row of nodes that is read. -/
abbrev NR (w : World) (okl : Nat → Prop) (g cap : Nat) (l : List Nd) : Prop := Kd.N kNd 37 w 0 okl (.slice (some ⟨g, 0, none⟩) l.length cap) l
section
variable {w w' : World} {okl : Nat → Prop} {g cap k : Nat} {l : List Nd} {n : Nd}
theorem NR.node (h : NR w okl g cap l) (hk : l[k]? = some n) : ∃ A3 c3 A4 c4, k < l.length ∧ w.cell? ⟨g, k * 6, none⟩ = some (.int .i64 n.kind) ∧ w.cell? ⟨g, k * 6 + 1, none⟩ = some (.int .i64 n.num) ∧ w.cell? ⟨g, k * 6 + 2, none⟩ = some (.string n.text) ∧
    w.cell? ⟨g, k * 6 + 3, none⟩ = some (.slice A3 n.names.length c3) ∧ w.cell? ⟨g, k * 6 + 4, none⟩ = some (.slice A4 n.kids.length c4) ∧ w.cell? ⟨g, k * 6 + 5, none⟩ = some (.int .i64 n.at_) ∧
    n.names.length ≤ c3 ∧ Kd.F Kd.string w okl A3 n.names.length n.names ∧ n.kids.length ≤ c4 ∧ Kd.F (Kd.int .i64) w okl A4 n.kids.length (ints n.kids) := by
  have hlt := (List.getElem?_eq_some_iff.1 hk).1
  obtain ⟨c, hcl, hF, hcc, _⟩ := Kd.N_elem h n (k : Int) (by omega) (by omega)
  have hx : l.getD ((k : Int)).toNat n = n := by simp [List.getD_eq_getElem?_getD, hk]
  rw [hx] at hF
  obtain ⟨A3, c3, A4, c4, rfl, l3, _, l4, _⟩ := kNd_open (Kd.FK_now hF)
  have h0 := hcc 0 _ rfl
  have h1 := hcc 1 _ rfl
  have h2 := hcc 2 _ rfl
  have h3 := hcc 3 _ rfl
  have h4 := hcc 4 _ rfl
  have h5 := hcc 5 _ rfl
  rw [Int.toNat_natCast] at h0 h1 h2 h3 h4 h5
  refine ⟨A3, c3, A4, c4, hlt, h0, h1, h2, h3, h4, h5, l3, Kd.F_mono (ok := fun j => okl j ∧ j ≠ g) (fun W' hW => ?_) (fun _ hj => hj.1), l4, Kd.F_mono (ok := fun j => okl j ∧ j ≠ g) (fun W' hW => ?_) (fun _ hj => hj.1)⟩
  · obtain ⟨B3, d3, B4, d4, e, _, q3, _, q4⟩ := kNd_open (hF W' hW)
    simp only [List.cons.injEq, Value.slice.injEq, true_and, and_true] at e
    rw [e.1.1]; exact q3
  · obtain ⟨B3, d3, B4, d4, e, _, q3, _, q4⟩ := kNd_open (hF W' hW)
    simp only [List.cons.injEq, Value.slice.injEq, true_and, and_true] at e
    rw [e.2.1]; exact q4
theorem NR.below (h : NR w okl g cap l) (hb : Below w.heap.size w w') : NR w' okl g cap l := Kd.N_below h hb
theorem cell_lt {p : Addr} {u : Value} (h : w.cell? p = some u) : p.block < w.heap.size := by
  rcases Nat.lt_or_ge p.block w.heap.size with h' | h'
  · exact h'
  · unfold World.cell? at h
    rw [Array.getElem?_eq_none h'] at h
    cases h
def declV (d : Option ByteArray) : Value := match d with
  | some s => .tuple #[.string s, .bool true]
  | none => .tuple #[.string ⟨#[]⟩, .bool false]
set_option maxHeartbeats 1600000 in
set_option maxRecDepth 100000 in
theorem decl_c {a : Nat} {d : Option ByteArray} (h0 : w.cell? ⟨a, 0, none⟩ = some (.slice (some ⟨g, 0, none⟩) l.length cap)) (h : NR w okl g cap l) (hd : declF l k = some d) :
    Calls Try.prog 72 #[ptr a, .int .i64 k] w fun e w' => e = .returned (declV d) ∧ Below w.heap.size w w' := by
  unfold declF at hd
  obtain ⟨n, hk, hd⟩ := Option.bind_eq_some_iff.1 hd
  obtain ⟨A3, c3, A4, c4, hlt, n0, n1, n2, n3, n4, n5, _, _, l4, f4⟩ := h.node hk
  have hlt' : (k : Int) < (l.length : Int) := by omega
  have hb1 : Below w.heap.size w (w.alloc (.cells #[.int .i64 n.kind, .int .i64 n.num, .string n.text, .slice A3 n.names.length c3, .slice A4 n.kids.length c4, .int .i64 n.at_] 37)) := (Below.refl _ _).alloc (Nat.le_refl _) _
  have HB := hid hb1
  clear hb1
  unfold ptr
  split at hd
  · rename_i hk2
    injection hd with hd
    subst hd
    rcases Decidable.em (n.kind = 21) with h21 | h21
    · have t1 : (n.kind == (21 : Int)) = true := by simp [h21]
      have H := hid h
      have F4 := hid f4
      clear h f4 hk h21 hk2
      unfold declV
      go_enter Try.func72, Try.ntmps72
      go_wp2_with fail
      go_ret2
      exact ⟨rfl, HB.out⟩
    · have t1 : (n.kind == (21 : Int)) = false := by simp [h21]
      have t2 : (n.kind == (22 : Int)) = true := by simp; omega
      have H := hid h
      have F4 := hid f4
      clear h f4 hk h21 hk2
      unfold declV
      go_enter Try.func72, Try.ntmps72
      go_wp2_with fail
      go_ret2
      exact ⟨rfl, HB.out⟩
  · rename_i hk2
    have t1 : (n.kind == (21 : Int)) = false := by simp; omega
    have t2 : (n.kind == (22 : Int)) = false := by simp; omega
    split at hd
    · rename_i h23
      have t3 : (n.kind == (23 : Int)) = true := by simp [h23]
      obtain ⟨j, hj, hd⟩ := Option.bind_eq_some_iff.1 hd
      obtain ⟨m, hm, hd⟩ := Option.map_eq_some_iff.1 hd
      obtain ⟨_, _, _, _, hlt2, m0, m1, m2, _⟩ := h.node hm
      subst hd
      have hjl := (List.getElem?_eq_some_iff.1 hj).1
      obtain ⟨ad, rfl, hj0⟩ := Kd.at_int (Kd.F_now f4) 0 (by omega) (by omega)
      have hx : rd (ints n.kids) 0 = (j : Int) := by
        unfold rd ints
        simp [List.getElem?_map, hj]
      rw [hx] at hj0
      have hj0' : w.cell? ad = some (.int .i64 j) := by simpa [Addr.add] using hj0
      have hp : (0 : Int) < (n.kids.length : Int) := by omega
      have hlt2' : (j : Int) < (l.length : Int) := by omega
      have hadk := cell_lt hj0'
      have hak : a < w.heap.size := cell_lt h0
      have hgk : g < w.heap.size := cell_lt m2
      have H := hid h
      have F4 := hid f4
      clear h f4 hk h23 hk2 hj hm hj0 hx
      unfold declV
      go_enter Try.func72, Try.ntmps72
      go_wp2_with fail
      go_quiet (fail)
      go_wp2_with fail
      go_ret2
      exact ⟨rfl, pw_below_drewN HB.out _⟩
    · rename_i h23
      injection hd with hd
      subst hd
      have t3 : (n.kind == (23 : Int)) = false := by simp; omega
      have H := hid h
      have F4 := hid f4
      clear h f4 hk h23 hk2
      unfold declV
      go_enter Try.func72, Try.ntmps72
      go_wp2_with fail
      go_ret2
      exact ⟨rfl, HB.out⟩
end
open Go.Proofs.YtibepkblgliooaaW.PrintWords
/-- The first place of a text; -1: it is none of them. -/
def idxV (s : ByteArray) (l : List ByteArray) : Int := match placeN s l 0 with
  | some j => (j : Int)
  | none => -1
theorem placeN_ge : ∀ {l : List ByteArray} {s : ByteArray} {n j : Nat}, placeN s l n = some j → n ≤ j
  | [], _, _, _, h => by simp [placeN] at h
  | x :: l, s, n, j, h => by
    unfold placeN at h
    split at h
    · injection h with h; omega
    · have := placeN_ge h; omega
theorem beqB_comm (a b : ByteArray) : beqB a b = beqB b a := by
  rw [Bool.eq_iff_iff, beqB_iff, beqB_iff]; exact ⟨Eq.symm, Eq.symm⟩
theorem placeN_cons (s x : ByteArray) (l : List ByteArray) (n : Nat) : placeN s (x :: l) n = if beqB x s then some n else placeN s l (n + 1) := rfl
theorem ret_i {a b : Int} (h : a = b) : Ending.returned (.int .i64 a) = Ending.returned (.int .i64 b) := by rw [h]
section
variable {w : World} {A : Option Addr} {c : Nat} {l : List ByteArray}
set_option maxHeartbeats 1600000 in
set_option maxRecDepth 100000 in
theorem index_c (h : Kd.C Kd.string w A l.length l) (hl : l.length ≤ 1048576) (s : ByteArray) : Calls Try.prog 86 #[.slice A l.length c, .string s] w fun e w' => e = .returned (.int .i64 (idxV s l)) ∧ w' = w := by
  have H := hid h
  clear h
  go_enter Try.func86, Try.ntmps86
  go_wp2_with fail
  go_loop [8] (fun i => ∃ j : Nat, j ≤ l.length ∧ i = .int .i64 j ∧ Box (placeN s (l.drop j) j = placeN s l 0)) (fun i => l.length - (RowKit.intOf i).toNat)
  case atStart => exact ⟨0, Nat.zero_le _, rfl, hid (by simp)⟩
  case round =>
    obtain ⟨j, hj, rfl, HA⟩ := hrel
    rcases Nat.lt_or_ge j l.length with hlt | hge
    · obtain ⟨ad, rfl, hc⟩ := Kd.at_string H.out (j : Int) (by omega) (by omega)
      have hx : rdOf ByteArray.empty l (j : Int) = l[j] := by unfold rdOf; simp [hlt]
      rw [hx, Int.toNat_natCast] at hc
      have htk := List.drop_eq_getElem_cons hlt
      have ha := HA.out
      rw [htk] at ha
      rw [placeN_cons] at ha
      generalize l[j] = x at hc ha
      have hlt' : (j : Int) < (l.length : Int) := by omega
      have hp : (0 : Int) ≤ (j : Int) := by omega
      cases hb : beqB x s
      · have hq : (s.toList == x.toList) = false := by rw [toList_beq, beqB_comm]; exact hb
        rw [hb, if_neg (by decide)] at ha
        have HB := hid ha
        clear hx htk hb ha
        go_wp2_with fail
        go_round
        case rel => exact ⟨j + 1, by omega, by go_num, HB⟩
        case measure => simp [RowKit.intOf]; omega
      · have hq : (s.toList == x.toList) = true := by rw [toList_beq, beqB_comm]; exact hb
        rw [hb] at ha
        have HB : Box ((j : Int) = idxV s l) := hid (by unfold idxV; rw [← ha]; rfl)
        clear hx htk hb ha
        go_wp2_with fail
        go_ret
        exact ⟨ret_i HB.out, rfl⟩
    · obtain rfl : j = l.length := by omega
      have HB : Box ((-1 : Int) = idxV s l) := hid (by have := HA.out; rw [List.drop_length] at this; unfold idxV; rw [← this]; rfl)
      clear HA
      go_wp2_with fail
      go_ret
      exact ⟨ret_i HB.out, rfl⟩
set_option maxHeartbeats 400000 in
set_option maxRecDepth 100000 in
theorem contains_c (h : Kd.C Kd.string w A l.length l) (hl : l.length ≤ 1048576) (s : ByteArray) : Calls Try.prog 85 #[.slice A l.length c, .string s] w fun e w' => e = .returned (.bool (placeN s l 0).isSome) ∧ w' = w := by
  have hq : (placeN s l 0).isSome = decide (0 ≤ idxV s l) := by
    unfold idxV
    cases placeN s l 0 <;> simp
  have HQ := hid hq
  have H := hid h
  clear h hq
  go_enter Try.func85, Try.ntmps85
  go_wp2_with fail
  refine (index_c H.out hl s).mono ?_
  rintro e w1 ⟨rfl, rfl⟩
  go_wp2_with fail
  go_ret
  exact ⟨ret_bool HQ.out, rfl⟩
set_option maxHeartbeats 400000 in
set_option maxRecDepth 100000 in
theorem isin_c (h : Kd.C Kd.string w A l.length l) (hl : l.length ≤ 1048576) {s : ByteArray} {b : Nat} (hb : w.cell? ⟨b, 0, none⟩ = some (.string s)) : Calls Try.prog 84 #[.slice A l.length c, .pointer (some ⟨b, 0, none⟩)] w fun e w' => e = .returned (.bool (placeN s l 0).isSome) ∧ w' = w := by
  have H := hid h
  clear h
  go_enter Try.func84, Try.ntmps84
  go_wp2_with fail
  refine (contains_c H.out hl s).mono ?_
  rintro e w1 ⟨rfl, rfl⟩
  go_wp2_with fail
  go_ret
  exact ⟨rfl, rfl⟩
end
/-- How far out the first scope is that has a name. -/
def depthN (s : ByteArray) : List (List ByteArray) → Nat → Option Nat
  | [], _ => none
  | x :: l, n => if (placeN s x 0).isSome then some n else depthN s l (n + 1)
def depthV (s : ByteArray) (o : List (List ByteArray)) : Int := match depthN s o.reverse 0 with
  | some d => (d : Int)
  | none => -1
theorem spotR_depth (s : ByteArray) : ∀ (l : List (List ByteArray)) (n : Nat), spotR s l n = match depthN s l n with
    | none => ⟨-1, 0⟩
    | some d => ⟨(d : Int), idxV s (l.getD (d - n) [])⟩
  | [], _ => rfl
  | x :: l, n => by
    unfold spotR depthN
    cases h : placeN s x 0 with
    | some j => simp [idxV, h]
    | none =>
      simp only [Option.isSome_none, Bool.false_eq_true, if_false]
      rw [spotR_depth s l (n + 1)]
      cases h2 : depthN s l (n + 1) with
      | none => rfl
      | some d =>
        have : n + 1 ≤ d := by
          have key : ∀ (l : List (List ByteArray)) (n d : Nat), depthN s l n = some d → n ≤ d := by
            intro l
            induction l with
            | nil => intro n d h; simp [depthN] at h
            | cons y l ih =>
              intro n d h
              unfold depthN at h
              split at h
              · injection h with h; omega
              · have := ih _ _ h; omega
          exact key l _ _ h2
        simp only
        rw [show d - n = (d - (n + 1)) + 1 by omega, List.getD_cons_succ]
section
variable {w : World} {a b : Nat} {oko : Nat → Prop} {opv : Value} {o : List (List ByteArray)} {s : ByteArray}
theorem Kd.slice_open {w : World} {x : List ByteArray} {cs : List Value} (h : (Kd.slice 9 Kd.string).K w x cs) : ∃ A c, cs = [.slice A x.length c] ∧ x.length ≤ c ∧ Kd.C Kd.string w A x.length x := by
  obtain ⟨A, c, rfl, h1, h2⟩ := h
  exact ⟨A, c, rfl, h1, h2⟩
/-- A scope's names, read. -/
theorem open_at {n cap : Nat} {A : Option Addr} (h : Kd.N (Kd.slice 9 Kd.string) 34 w 0 oko (.slice A n cap) o) {i : Nat} {x : List ByteArray} (hx : o[i]? = some x) : ∃ g A1 c1, A = some ⟨g, 0, none⟩ ∧ i < o.length ∧ w.cell? ⟨g, i, none⟩ = some (.slice A1 x.length c1) ∧ Kd.C Kd.string w A1 x.length x := by
  have hlt := (List.getElem?_eq_some_iff.1 hx).1
  obtain ⟨g, cap', e, _, _, _⟩ := Kd.N_form h (by omega)
  injection e with e1 e2 e3
  subst e1 e2
  obtain ⟨c, hcl, hF, hcc, _⟩ := Kd.N_elem h x (i : Int) (by omega) (by omega)
  have hx' : o.getD ((i : Int)).toNat x = x := by simp [List.getD_eq_getElem?_getD, hx]
  rw [hx'] at hF
  obtain ⟨A1, c1, rfl, _, hC⟩ := Kd.slice_open (Kd.FK_now hF)
  have h0 := hcc 0 _ rfl
  rw [Int.toNat_natCast] at h0
  exact ⟨g, A1, c1, rfl, hlt, by simpa [Kd.slice] using h0, hC⟩
end
open Go.Proofs.YtibepkblgliooaaW.PrintWords
theorem wrapI {x : Int} (h : -9223372036854775808 ≤ x ∧ x ≤ 9223372036854775807) : IntKind.i64.wrap x = x := by
  simp only [IntKind.wrap, IntKind.bits, IntKind.signed]
  simp only [show (2 : Int) ^ 64 = 18446744073709551616 by decide, show (2 : Int) ^ (64 - 1) = 9223372036854775808 by decide]
  by_cases h0 : 0 ≤ x
  · rw [if_neg (by simp; omega)]; omega
  · rw [if_pos (by simp; omega)]; omega
theorem depthN_cons (s : ByteArray) (x : List ByteArray) (l : List (List ByteArray)) (n : Nat) : depthN s (x :: l) n = if (placeN s x 0).isSome then some n else depthN s l (n + 1) := rfl
section
variable {w : World} {a b : Nat} {oko : Nat → Prop} {A : Option Addr} {cap : Nat} {o : List (List ByteArray)} {s : ByteArray}
theorem isin_hit {c : Nat} {l : List ByteArray} (h : Kd.C Kd.string w A l.length l) (hl : l.length ≤ 1048576) (hb : w.cell? ⟨b, 0, none⟩ = some (.string s)) {q : Bool} (hq : (placeN s l 0).isSome = q) : Calls Try.prog 84 #[.slice A l.length c, .pointer (some ⟨b, 0, none⟩)] w fun e w' => e = .returned (.bool q) ∧ w' = w := by
  rw [← hq]; exact isin_c h hl hb
set_option maxHeartbeats 1600000 in
set_option maxRecDepth 100000 in
theorem find_c (h3 : w.cell? ⟨a, 3, none⟩ = some (.slice A o.length cap)) (h : Kd.N (Kd.slice 9 Kd.string) 34 w 0 oko (.slice A o.length cap) o) (hs : ∀ x ∈ o, x.length ≤ 1048576) (hb : w.cell? ⟨b, 0, none⟩ = some (.string s)) (hl : o.length ≤ 1048576) :
    Calls Try.prog 83 #[.pointer (some ⟨a, 3, none⟩), .func (.func 84) #[] #[.pointer (some ⟨b, 0, none⟩)]] w fun e w' => e = .returned (.int .i64 (depthV s o)) ∧ ∃ m, w' = w.drewN m := by
  have H := hid h
  have HS := hid hs
  have HB := hid hb
  clear h hs hb
  go_enter Try.func83, Try.ntmps83
  go_wp2_with fail
  go_loopw [11] (fun x wx => ∃ i : Nat, i ≤ o.length ∧ x = .int .i64 i ∧ Box (depthN s (o.reverse.drop i) i = depthN s o.reverse 0) ∧ ∃ m, wx = w.drewN m) (fun x _ => o.length - (RowKit.intOf x).toNat)
  case atStart => exact ⟨0, Nat.zero_le _, rfl, hid (by simp), 0, rfl⟩
  case round =>
    obtain ⟨i, hi, rfl, HA, m, rfl⟩ := hrel
    rcases Nat.lt_or_ge i o.length with hlt | hge
    · obtain ⟨k, hk⟩ : ∃ k, k + 1 + i = o.length := ⟨o.length - 1 - i, by omega⟩
      have hkl : k < o.length := by omega
      obtain ⟨g, A1, c1, rfl, _, hc, hC⟩ := open_at H.out (List.getElem?_eq_getElem hkl)
      have hx : (o.reverse)[i]? = some o[k] := by
        rw [List.getElem?_reverse hlt, show o.length - 1 - i = k by omega]
        exact List.getElem?_eq_getElem hkl
      have hdr : o.reverse.drop i = o[k] :: o.reverse.drop (i + 1) := by
        obtain ⟨h1, h2⟩ := List.getElem?_eq_some_iff.1 hx
        rw [← h2]; exact List.drop_eq_getElem_cons h1
      have ha := HA.out
      rw [hdr] at ha
      rw [depthN_cons] at ha
      have hxs := HS.out o[k] (List.getElem_mem hkl)
      generalize o[k] = x at hc hC ha hxs
      have h3' : (w.drewN m).cell? ⟨a, 3, none⟩ = some (.slice (some ⟨g, 0, none⟩) o.length cap) := h3
      have hc' : (w.drewN m).cell? ⟨g, k, none⟩ = some (.slice A1 x.length c1) := hc
      have e1 : IntKind.i64.wrap (((o.length : Nat) : Int) - 1) = (k : Int) + (i : Int) := by rw [wrapI ⟨by omega, by omega⟩]; omega
      have e2 : IntKind.i64.wrap (k : Int) = (k : Int) := wrapI ⟨by omega, by omega⟩
      have hki : (k : Int) < (o.length : Int) := by omega
      have hki0 : (0 : Int) ≤ (k : Int) := by omega
      have hil : (i : Int) < (o.length : Int) := by omega
      have HC := hid hC
      cases hf : (placeN s x 0).isSome
      · rw [hf] at ha
        have HA2 := hid ha
        have HF := hid hf
        clear ha hf hdr hx HA hC
        go_wp2_with fail
        go_quiet ((go_at_call 84; exact (isin_hit (Kd.C_below HC.out (pw_below_drewN (Below.refl _ _) _)) hxs HB.out HF.out).mono fun _ _ h => ⟨h.1, _, h.2⟩))
        go_wp2_with fail
        go_roundw
        case rel => exact ⟨i + 1, by omega, by go_num, HA2, _, rfl⟩
        case measure => simp [RowKit.intOf]; omega
      · rw [hf, if_pos rfl] at ha
        have HE := hid (show (i : Int) = depthV s o by unfold depthV; rw [← ha])
        have HF := hid hf
        clear ha hf hdr hx HA hC
        go_wp2_with fail
        go_quiet ((go_at_call 84; exact (isin_hit (Kd.C_below HC.out (pw_below_drewN (Below.refl _ _) _)) hxs HB.out HF.out).mono fun _ _ h => ⟨h.1, _, h.2⟩))
        go_wp2_with fail
        go_ret
        exact ⟨ret_i HE.out, _, World.drewN_drewN _ _ _⟩
    · obtain rfl : i = o.length := by omega
      have HE := hid (show (-1 : Int) = depthV s o by
        have := HA.out
        rw [List.drop_of_length_le (by simp)] at this
        unfold depthV; rw [← this]; rfl)
      clear HA
      go_wp2_with fail
      go_ret
      exact ⟨ret_i HE.out, _, rfl⟩
end
end Go.Proofs.Ytibepkblgliooaa.Q
namespace Go.Proofs.Ytibepkblgliooaa.Q
open Go.RowKit
open Go.Proofs.YtibepkblgliooaaW.PrintWords
theorem depthN_lt (s : ByteArray) : ∀ (l : List (List ByteArray)) (n d : Nat), depthN s l n = some d → n ≤ d ∧ d < n + l.length
  | [], n, d, h => by simp [depthN] at h
  | x :: l, n, d, h => by
    rw [depthN_cons] at h
    split at h
    · injection h with h; simp; omega
    · have := depthN_lt s l _ _ h; simp; omega
section
variable {w : World} {a : Nat} {oko : Nat → Prop} {A : Option Addr} {cap : Nat} {o : List (List ByteArray)} {s : ByteArray}
set_option maxHeartbeats 1600000 in
set_option maxRecDepth 100000 in
theorem spot_c (h3 : w.cell? ⟨a, 3, none⟩ = some (.slice A o.length cap)) (h : Kd.N (Kd.slice 9 Kd.string) 34 w 0 oko (.slice A o.length cap) o) (hs : ∀ x ∈ o, x.length ≤ 1048576) (hl : o.length ≤ 1048576) (s : ByteArray) :
    Calls Try.prog 73 #[ptr a, .string s] w fun e w' => e = .returned (.agg #[.int .i64 (spotF o s).depth, .int .i64 (spotF o s).slot]) ∧ Below w.heap.size w w' := by
  have ha : a < w.heap.size := cell_lt h3
  have hb1 : Below w.heap.size w ((w.alloc (.cells #[.string s] 9)).alloc (.cells #[.int .i64 0, .int .i64 0] 85)) := ((Below.refl _ _).alloc (Nat.le_refl _) _).alloc (by simp) _
  have hrb : ((w.alloc (.cells #[.string s] 9)).alloc (.cells #[.int .i64 0, .int .i64 0] 85)).heap[w.heap.size]? = some (.cells #[.string s] 9 (0, 0)) := by
    rw [heap_alloc_old _ _ (by simp)]; exact heap_alloc_new _ _
  have hrc : ((w.alloc (.cells #[.string s] 9)).alloc (.cells #[.int .i64 0, .int .i64 0] 85)).heap[w.heap.size + 1]? = some (.cells #[.int .i64 0, .int .i64 0] 85 (0, 0)) := by
    have := heap_alloc_new (w.alloc (.cells #[.string s] 9)) (.cells #[.int .i64 0, .int .i64 0] 85)
    rwa [show (w.alloc (.cells #[.string s] 9)).heap.size = w.heap.size + 1 by simp] at this
  have h3' := (hb1.cell (p := ⟨a, 3, none⟩) ha).trans h3
  have hN := Kd.N_below h hb1
  have hsp : spotF o s = match depthN s o.reverse 0 with
    | none => ⟨-1, 0⟩
    | some d => ⟨(d : Int), idxV s (o.reverse.getD d [])⟩ := by
    unfold spotF; rw [spotR_depth]; rfl
  generalize spotF o s = R at hsp
  have HSP := hid hsp
  have HN := hid hN
  have HS := hid hs
  have HB := hid hb1
  have HRB := hid hrb
  have HRC := hid hrc
  clear h hs hb1 hrb hrc hsp hN
  unfold ptr
  go_enter Try.func73, Try.ntmps73
  go_wp2_with fail
  generalize ((w.alloc (.cells #[.string s] 9)).alloc (.cells #[.int .i64 0, .int .i64 0] 85)) = W at *
  refine (find_c h3' HN.out HS.out (cell_of_row _ _ 0 _ _ _ HRB.out) hl).mono ?_
  rintro e w1 ⟨rfl, m, rfl⟩
  have p3 : (W.drewN m).cell? ⟨a, 3, none⟩ = some (.slice A o.length cap) := h3'
  have pb : (W.drewN m).cell? ⟨w.heap.size, 0, none⟩ = some (.string s) := cell_of_row _ _ 0 _ _ _ HRB.out
  have pc0 : (W.drewN m).cell? ⟨w.heap.size + 1, 0, none⟩ = some (.int .i64 0) := cell_of_row _ _ 0 _ _ _ HRC.out
  have pc1 : (W.drewN m).cell? ⟨w.heap.size + 1, 1, none⟩ = some (.int .i64 0) := cell_of_row _ _ 1 _ _ _ HRC.out
  have pf0 : (W.drewN m).frozen? ⟨w.heap.size + 1, 0, none⟩ = false := by simp [World.frozen?, HRC.out]
  have pf1 : (W.drewN m).frozen? ⟨w.heap.size + 1, 1, none⟩ = false := by simp [World.frozen?, HRC.out]
  have hlw : w.heap.size + 1 < W.heap.size := (Array.getElem?_eq_some_iff.1 HRC.out).1
  have hbm : Below w.heap.size w (W.drewN m) := pw_below_drewN HB.out m
  have hNm := Kd.N_drewN HN.out m
  have hsp := HSP.out
  clear HSP HN HB
  have HN := hid hNm
  have HB := hid hbm
  clear hNm hbm h3' h3
  have hW1 : (W.drewN m).heap.size = W.heap.size := rfl
  rw [← hW1] at hlw
  clear hW1 HRB HRC
  generalize W.drewN m = W1 at *
  cases hd : depthN s o.reverse 0 with
  | none =>
    rw [hd] at hsp
    dsimp only at hsp
    subst hsp
    have hdv : depthV s o = -1 := by unfold depthV; rw [hd]
    rw [hdv]
    clear hdv hd
    go_wp2_with fail
    refine bodyPost_ret (v := .agg #[.int .i64 (-1), .int .i64 0]) ?_ rfl ⟨rfl, ?_⟩
    · simp [results, Try.results73, go_sem, pc0, pc1]
    · exact (HB.out.setCell (by simp) _).setCell (by simp) _
  | some d =>
    rw [hd] at hsp
    dsimp only at hsp
    have hdv : depthV s o = (d : Int) := by unfold depthV; rw [hd]
    have hdl := (depthN_lt s _ _ _ hd).2
    rw [List.length_reverse, Nat.zero_add] at hdl
    rw [hdv]
    obtain ⟨k, hk⟩ : ∃ k, k + 1 + d = o.length := ⟨o.length - 1 - d, by omega⟩
    have hkl : k < o.length := by omega
    obtain ⟨g, A1, c1, rfl, _, hc, hC⟩ := open_at HN.out (List.getElem?_eq_getElem hkl)
    have hx : o.reverse.getD d [] = o[k] := by
      rw [List.getD_eq_getElem?_getD, List.getElem?_reverse hdl, show o.length - 1 - d = k by omega, List.getElem?_eq_getElem hkl]; rfl
    have hxs := HS.out o[k] (List.getElem_mem hkl)
    rw [hx] at hsp
    clear hx
    generalize o[k] = x at hc hC hxs hsp
    subst hsp
    have e1 : IntKind.i64.wrap (((o.length : Nat) : Int) - 1) = (k : Int) + (d : Int) := by rw [wrapI ⟨by omega, by omega⟩]; omega
    have e2 : IntKind.i64.wrap (k : Int) = (k : Int) := wrapI ⟨by omega, by omega⟩
    have e3 : decide ((d : Int) < 0) = false := decide_eq_false (by omega)
    have hki : (k : Int) < (o.length : Int) := by omega
    have hki0 : (0 : Int) ≤ (k : Int) := by omega
    have HC := hid hC
    clear hdv hd hC
    go_upto_region 4 with fail
    go_still_tail 20, (by kernel_rfl)
    still_call (index_c (Kd.C_below HC.out (below_drew (Below.refl _ _))) hxs s)
    repeat still_step
    refine wpStill_nil ?_
    change wpList _ _ _ _ _ W1.drew
    go_wp2_with fail
    refine bodyPost_ret (v := .agg #[.int .i64 d, .int .i64 (idxV s x)]) ?_ rfl ⟨rfl, ?_⟩
    · simp [results, Try.results73, go_sem, pc0, pc1]
    · exact (HB.out.drew.setCell (by simp) _).setCell (by simp) _
end
open Go.Proofs.YtibepkblgliooaaW.PrintWords
/-- A row of texts of the call's own, made since there were n0 blocks. -/
def OS (n0 : Nat) (w : World) (val : Value) (l : List ByteArray) : Prop := Kd.N Kd.string 9 w 0 (fun k => some k = val.ownBlock) val l ∧ ∀ k, val.ownBlock = some k → n0 ≤ k ∧ k < w.heap.size
section
variable {w w' w1 : World} {n0 n1 : Nat} {val val1 : Value} {l : List ByteArray} {A : Option Addr} {c : Nat} {okp : Nat → Prop} {s : ByteArray}
theorem OS.nil (n0 : Nat) (w : World) : OS n0 w (.slice none 0 0) [] := ⟨N_tightS (ok := fun _ => False) (Kd.R_N (Kd.R_nil _ _ _ _ _)), fun k hk => by simp [Value.ownBlock] at hk⟩
theorem OS.below (h : OS n0 w val l) (hb : Below w.heap.size w w') : OS n0 w' val l := ⟨Kd.N_below h.1 hb, fun k hk => ⟨(h.2 k hk).1, Nat.lt_of_lt_of_le (h.2 k hk).2 hb.size⟩⟩
theorem OS.slice (h : OS n0 w val l) : ∃ A c, val = .slice A l.length c := Kd.N_slice h.1
theorem OS.of {okn : Nat → Prop} (hN : Kd.N Kd.string 9 w1 0 okn val1 l) (h : ∀ k, val1.ownBlock = some k → n0 ≤ k) : OS n0 w1 val1 l := ⟨N_tightS hN, fun k hk => ⟨h k hk, Kd.N_lt hN k hk⟩⟩
/-- What append makes of it. -/
theorem OS.grow {okn : Nat → Prop} {l' : List ByteArray} (h : OS n0 w val l) (h0 : n0 ≤ w.heap.size) (hN : Kd.N Kd.string 9 w1 0 okn val1 l') (hat : val1.ownBlock = val.ownBlock ∨ ∃ b, val1.ownBlock = some b ∧ w.heap.size ≤ b) : OS n0 w1 val1 l' :=
  OS.of hN fun k hk => by
    rcases hat with hat | ⟨b, hb, hle⟩
    · rw [hat] at hk; exact (h.2 k hk).1
    · rw [hb] at hk; injection hk with hk; omega
set_option maxHeartbeats 1600000 in
set_option maxRecDepth 100000 in
theorem clone_c (h : Kd.F Kd.string w okp A l.length l) (hl : l.length ≤ 1048576) : Calls Try.prog 89 #[.slice A l.length c] w fun e w' => ∃ val, e = .returned val ∧ OS w.heap.size w' val l ∧ Below w.heap.size w w' := by
  have hq := fun (w : World) (a : Option Addr) (n c n' c' : Nat) => Lib.run_eql_slice_nil (P := Try.prog) w 34 9 a n c n' c' Try.underlying34
  cases A with
  | none =>
    have hl0 : l = [] := by
      cases l with
      | nil => rfl
      | cons x l =>
        obtain ⟨ad, e, _⟩ := (Kd.F_now h).2.2 (by simp)
        cases e
    subst hl0
    have H := hid h
    clear h
    go_enter Try.func89, Try.ntmps89
    go_wp2_with fail
    go_ret
    exact ⟨_, rfl, OS.nil _ _, Below.refl _ _⟩
  | some ad =>
    have hf := Kd.F_alloc (Kd.F_bound h) (.cells #[] 9)
    have HF := hid hf
    have hmade : Kd.N Kd.string 9 (w.alloc (.cells #[] 9)) w.heap.size (fun _ => True) (.slice (some ⟨w.heap.size, 0, none⟩) 0 0) [] := by
      have ho := World.ownsRow_made (base := w.heap.size) (e := 9) (size := 1) w #[] 0 (Nat.le_refl _) (Nat.zero_le _) rfl
      have hR : Kd.R Kd.string 9 (w.alloc (.cells #[] 9)) w.heap.size (fun _ => True) (.slice (some ⟨w.heap.size, 0, none⟩) 0 0) [] := by
        refine ⟨fun j hj => trivial, [], ho, rfl, fun j p hp => by simp at hp⟩
      exact Kd.R_N hR
    have HM := hid hmade
    have HB := hid ((Below.refl w.heap.size w).alloc (Nat.le_refl _) (.cells #[] 9))
    clear h hf hmade
    go_enter Try.func89, Try.ntmps89
    go_wp2_with (at_builtin; refine Kd.N_append_rows Kd.string (w0 := w) w.heap.size rfl _ _ 34 9 (.string ⟨#[]⟩) 16 rfl Try.underlying34 infoStr rfl (by decide) (by decide) (.slice (some ⟨w.heap.size, 0, none⟩) 0 0) [] l (some ad) l.length c (fun _ => True) _ ?c1 ?c2 HM.out HF.out ?c3 (fun _ _ => trivial) HB.out (by simp) (by simp; omega) ?_; (case c1 => rfl); (case c2 => rfl); (case c3 => intro k hk; exact ⟨trivial, fun e => by simp [Value.ownBlock] at e; omega⟩); intro v1 w1 hN hB hg hat; have HN1 := hid hN; have HB1 := hid hB; have HAT := hid hat; clear hN hB hg hat)
    go_ret
    refine ⟨_, rfl, OS.of (Kd.N_lower (by simpa using HN1.out) (Nat.zero_le _)) (fun k hk => ?_), HB1.out⟩
    have hk : v1.ownBlock = some k := hk
    rcases HAT.out with h | ⟨b, h, hle⟩
    · rw [hk] at h
      simp [Value.ownBlock] at h
      omega
    · rw [hk] at h
      injection h with h
      simp at hle
      omega
theorem below_grown {w2 : World} {row : Option Nat} (hb : Below n0 w w1) (hn : n0 ≤ w.heap.size) (hg : w1.grownBy w2 row) (h0 : ∀ k, row = some k → n0 ≤ k) : Below n0 w w2 :=
  ⟨hg.os.trans hb.os, hg.tape.trans hb.tape, hg.output.trans hb.output, Nat.le_trans hb.size hg.size, fun k hk => (hg.block k (by have := hb.size; omega) (fun e => by have := h0 k e.symm; omega)).trans (hb.block k hk)⟩
set_option maxHeartbeats 3200000 in
set_option maxRecDepth 100000 in
theorem names_c {okl : Nat → Prop} {g cap a : Nat} {l : List Nd} {A4 : Option Addr} {c4 : Nat} {ks : List Nat} {ahead ns : List ByteArray} (h0 : w.cell? ⟨a, 0, none⟩ = some (.slice (some ⟨g, 0, none⟩) l.length cap)) (h : NR w okl g cap l)
    (ha : Kd.F Kd.string w okp A ahead.length ahead) (hal : ahead.length ≤ 1048576) (hk : Kd.C (Kd.int .i64) w A4 ks.length (ints ks)) (hkl : ks.length ≤ 9223372036854775807) (hn : namesF l ks ahead = some ns) :
    Calls Try.prog 75 #[ptr a, .slice A ahead.length c, .slice A4 ks.length c4] w fun e w' => ∃ val, e = .returned val ∧ OS w.heap.size w' val ns ∧ Below w.heap.size w w' := by
  have hak : a < w.heap.size := cell_lt h0
  have H := hid h
  have HA := hid ha
  have HK := hid hk
  have HN := hid hn
  have H0 := hid h0
  clear h ha hk hn h0
  unfold ptr
  go_enter Try.func75, Try.ntmps75
  go_wp2_with fail
  refine (clone_c HA.out hal).mono ?_
  rintro e w1 ⟨val, rfl, hO, hB⟩
  have HO := hid hO
  have HB := hid hB
  clear hO hB
  go_wp2_with fail
  go_loopw [7, 16] (fun x y wx => ∃ (j : Nat) (val : Value) (acc : List ByteArray), j ≤ ks.length ∧ y = .int .i64 j ∧ x = val ∧ Box (OS w.heap.size wx val acc) ∧ Box (namesF l (ks.drop j) acc = some ns) ∧ Box (Below w.heap.size w wx)) (fun _ y _ => ks.length - (RowKit.intOf y).toNat)
  case atStart => exact ⟨0, val, ahead, Nat.zero_le _, rfl, rfl, HO, HN, HB⟩
  case round =>
    clear HO HN HB
    obtain ⟨j, v, acc, hj, rfl, rfl, HO, HN, HB⟩ := hrel
    obtain ⟨Av, cv, ev⟩ := HO.out.slice
    rcases Nat.lt_or_ge j ks.length with hlt | hge
    · have hlt' : (j : Int) < (ks.length : Int) := by omega
      have hp : (0 : Int) ≤ (j : Int) := by omega
      obtain ⟨ad, rfl, hc⟩ := Kd.at_int (Kd.C_below HK.out HB.out) (j : Int) (by omega) (by omega)
      have hx : rd (ints ks) (j : Int) = (ks[j] : Int) := by unfold rd ints; simp [hlt]
      rw [hx, Int.toNat_natCast] at hc
      have hn := HN.out
      rw [List.drop_eq_getElem_cons hlt] at hn
      unfold namesF at hn
      obtain ⟨d, hd, hn⟩ := Option.bind_eq_some_iff.1 hn
      generalize ks[j] = k at hc hd
      have hdc := decl_c (w := wr) ((HB.out.cell (p := ⟨a, 0, none⟩) hak).trans H0.out) (Kd.N_below H.out HB.out) hd
      have HD := hid hdc
      have H2 := hid hn
      clear hx hn hd hdc HN
      subst ev
      go_wp2_with fail
      refine HD.out.mono ?_
      rintro e w2 ⟨rfl, hb2⟩
      have HB2 := hid hb2
      have HBB := hid (HB.out.trans (hb2.mono HB.out.size))
      have HO2 := hid (HO.out.below hb2)
      clear hb2
      cases d with
      | none =>
        unfold declV
        go_wp2_with fail
        go_roundw
        case rel => exact ⟨j + 1, _, acc, by omega, by go_num, rfl, HO2, H2, HBB⟩
        case measure => simp [RowKit.intOf]; omega
      | some s =>
        have h2 := H2.out
        dsimp only at h2
        split at h2
        · rename_i hal2
          have H3 := hid h2
          have hal3 : acc.length < 1048576 := hal2
          unfold declV
          clear h2
          go_wp2_with (at_builtin; refine Kd.N_append Kd.string (w0 := w2) 0 rfl _ _ 34 9 (.string ⟨#[]⟩) 16 rfl Try.underlying34 infoStr rfl (by decide) (by decide) (.slice Av acc.length cv) acc s [.string s] (fun _ => True) (fun _ => False) ?c1 ?c2 (fun _ _ => rfl) (fun _ hk => hk.elim) (fun _ _ => trivial) (Kd.N_mono HO2.out.1 (fun _ _ => trivial)) (Below.refl _ _) (Nat.zero_le _) (by omega) ?_; (case c1 => rfl); (case c2 => rfl); intro v1 w3 hN3 _ hg3 hat3; have HO3 := hid (HO2.out.grow (by have := HBB.out.size; omega) hN3 hat3); have HG3 := hid hg3; clear hN3 hg3 hat3)
          go_roundw
          case rel => exact ⟨j + 1, _, acc ++ [s], by omega, by go_num, rfl, HO3, H3, hid (below_grown HBB.out (Nat.le_refl _) HG3.out (fun k hk => (HO2.out.2 k hk).1))⟩
          case measure => simp [RowKit.intOf]; omega
        · cases h2
    · obtain rfl : j = ks.length := by omega
      have hn := HN.out
      rw [List.drop_length] at hn
      obtain rfl : acc = ns := Option.some.inj hn
      subst ev
      clear hn
      go_wp2_with fail
      go_ret
      exact ⟨_, rfl, HO.out, HB.out⟩
end
end Go.Proofs.Ytibepkblgliooaa.Q
namespace Go.Proofs.YtibepkblgliooaaW.PrintWords
open Go.RowKit
namespace Kd
section
variable {α β : Type} {d : Kd α} {e base base' n m c g N' lo hi : Nat} {ok ok' S : Nat → Prop} {w W w1 : World} {A : Option Addr} {ad : Addr} {u v v1 : Value} {xs : List α}
theorem F_cut (h : F d W ok A xs.length xs) (hm : m ≤ xs.length) (hc : xs.length ≤ c) : F d W ok (if c = m then A else A.map (·.add (m * d.sz))) (xs.drop m).length (xs.drop m) := F_imp h (fun _ hC => C_drop hC hm hc)
theorem FK_slice_mk {l : List α} (hl : l.length ≤ c) (hf : F d W ok A l.length l) : FK (Kd.slice e d) W ok l [.slice A l.length c] := fun W' hW => ⟨A, c, rfl, hl, hf W' hW⟩
end
end Kd
end Go.Proofs.YtibepkblgliooaaW.PrintWords
