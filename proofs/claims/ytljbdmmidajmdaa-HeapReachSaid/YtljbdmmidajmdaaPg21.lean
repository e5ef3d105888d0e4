/- The walk of PagesFull. -/
import Derived.Test.YtljbdmmidajmdaaPg20
namespace Go.Proofs.Ytljbdmmidajmdaa.Pg
open Go.RowKit

/-- The cells 0 .. k - 1, each with its number. -/
def counted (kind : Int) (k : Nat) : List CD := (List.range k).map fun i : Nat => ⟨kind, (i : Int), 0, [], []⟩
theorem counted_succ (kind : Int) (k : Nat) : counted kind k ++ [⟨kind, k, 0, [], []⟩] = counted kind (k + 1) := by unfold counted; rw [List.range_succ, List.map_append]; rfl
theorem counted_length (kind : Int) (k : Nat) : (counted kind k).length = k := by unfold counted; simp
theorem counted_at (kind : Int) {k i : Nat} (h : i < k) : (counted kind k)[i]? = some ⟨kind, i, 0, [], []⟩ := by unfold counted; simp [h]

/-- A family of one book with these cells. -/
def Solo (B : Nat) (w : World) (b : Nat) (l : List CD) : Prop := ∃ D ps, Fam B w D ∧ Books D [b] [{ cells := l, pgs := ps, gone := false }]
theorem Solo.add {B : Nat} {w : World} {b : Nat} {l : List CD} (h : Solo B w b l) (hB : B ≤ w.heap.size) (hl : l.length < 4096) {c : CD} {ks vl : Value} (hr : Reads B w c ks vl) (hc : c.small) :
    Calls Try.prog 14 #[ptr b, aggC c ks vl] w fun e w' => e = .returned (.tuple #[.int .i64 (l.length : Nat), .int .i64 0]) ∧ Solo B w' b (l ++ [c]) ∧ Below B w w' := by
  obtain ⟨D, ps, hF, hS⟩ := h
  refine (Add hF hB hS (by simp) (i := 0) rfl rfl rfl hl hr hc).mono ?_
  rintro e w' ⟨rfl, D', ps', _, hF', hG, hS'⟩
  exact ⟨rfl, ⟨D', ps', hF', hS'⟩, hG.low hF hB⟩

section
variable {B : Nat} {w : World} {b : Nat} {l : List CD}
theorem Solo.below (h : Solo B w b l) {w' : World} (hb : Below w.heap.size w w') : Solo B w' b l := by
  obtain ⟨D, ps, hF, hS⟩ := h
  exact ⟨D, ps, hF.below hb, hS⟩
theorem Solo.full (h : Solo B w b l) (hl : 4096 ≤ l.length) (c : CD) (ks vl : Value) :
    Calls Try.prog 14 #[ptr b, aggC c ks vl] w fun e w' => e = .returned (.tuple #[.int .i64 0, .int .i64 6]) ∧ Below w.heap.size w w' := by
  obtain ⟨D, ps, hF, hS⟩ := h
  exact Add_full hF hS (i := 0) rfl rfl rfl hl c ks vl
theorem Solo.get (h : Solo B w b l) (hB : B ≤ w.heap.size) {k : Int} (h0 : 0 ≤ k) {c : CD} (hk : l[k.toNat]? = some c) :
    Calls Try.prog 15 #[ptr b, .int .i64 k] w fun e w' => ∃ A n cap A' n' cap', e = .returned (.tuple #[.agg #[.int .i64 c.kind, .int .i64 c.a, .int .i64 c.b, .slice A n cap, .slice A' n' cap'], .int .i64 0]) ∧ Below w.heap.size w w' ∧ Reads B w' c (.slice A n cap) (.slice A' n' cap') := by
  obtain ⟨D, ps, hF, hS⟩ := h
  exact GetIs hF hB hS (i := 0) rfl rfl k h0 hk
theorem Solo.len (h : Solo B w b l) {n : Int} (hn : ((l.length : Nat) : Int) = n) : Calls Try.prog 17 #[ptr b] w fun e w' => e = .returned (.int .i64 n) ∧ w' = w := by
  obtain ⟨D, ps, hF, hS⟩ := h
  exact LenIs hF hS (i := 0) rfl rfl hn
theorem Solo.live (h : Solo B w b l) {n : Int} (hn : (((l.length + 7) / 8 : Nat) : Int) = n) : Calls Try.prog 18 #[ptr b] w fun e w' => e = .returned (.int .i64 n) ∧ w' = w := by
  obtain ⟨D, ps, hF, hS⟩ := h
  have := distinct_one (hS.wf _ List.mem_cons_self)
  exact LiveIs hF hS (i := 0) rfl rfl (by rw [this]; exact hn)
theorem Solo.set (h : Solo B w b l) (hB : B ≤ w.heap.size) {k : Int} (h0 : 0 ≤ k) (hk : k.toNat < l.length) {c : CD} {ks vl : Value} (hr : Reads B w c ks vl) (hc : c.small) :
    Calls Try.prog 21 #[ptr b, .int .i64 k, aggC c ks vl] w fun e w' => e = .returned (.int .i64 0) ∧ Solo B w' b (l.set k.toNat c) ∧ Below B w w' := by
  obtain ⟨D, ps, hF, hS⟩ := h
  have := Set hF hB hS (by simp) (i := 0) rfl rfl k.toNat hk hr hc
  rw [Int.toNat_of_nonneg h0] at this
  refine this.mono ?_
  rintro e w' ⟨rfl, D', ps', _, hF', hG, hS'⟩
  exact ⟨rfl, ⟨D', ps', hF', hS'⟩, hG.low hF hB⟩
end

set_option maxHeartbeats 1600000 in
set_option maxRecDepth 100000 in
theorem full_c (n x : Int) (hn0 : 0 ≤ n) (hn1 : n ≤ 255) (hx0 : 0 ≤ x) (hx1 : x ≤ 65535) (w : World) : Calls Try.prog 3 #[.int .u8 n, .int .u16 x] w fun e w' => e = .returned (.bool true) ∧ Below w.heap.size w w' := by
  go_enter Try.func3, Try.ntmps3
  go_wp2_with (go_at_call 13; refine (New (B := w.heap.size) (Nat.le_refl _)).mono ?_; rintro e w1 ⟨b, rfl, D, hF, hb, -, -, hS⟩; have HF := hid hF; have HB := hid hb; have HS := hid hS; clear hF hb hS)
  go_loopw [6] (fun i wr => ∃ k : Nat, k ≤ 4096 ∧ i = .int .i64 k ∧ Box (Below w.heap.size w wr) ∧ Box (Solo w.heap.size wr b (counted 0 k))) (fun i _ => 4096 - (intOf i).toNat)
  case atStart => exact ⟨0, by omega, rfl, HB, hid ⟨D, [], HF.out, HS.out⟩⟩
  case round =>
    clear HF HS HB
    obtain ⟨k, hk, rfl, HB, HS⟩ := hrel
    have s1 := HB.out.size
    rcases Nat.lt_or_ge k 4096 with hlt | hge
    · have hlt' : (k : Int) < 4096 := by omega
      have HL := hid (counted_length 0 k)
      go_wp2_with (go_at_call 14; refine (HS.out.add s1 (by rw [HL.out]; exact hlt) (c := ⟨0, k, 0, [], []⟩) (noReads _ _ _) (noSmall _ _ _)).mono ?_; rintro e w2 ⟨rfl, hs2, hb2⟩; rw [counted_succ] at hs2; have HS2 := hid hs2; have HB2 := hid (HB.out.trans hb2); clear hs2 hb2)
      go_roundw
      case rel => exact ⟨k + 1, by omega, by go_num, HB2, HS2⟩
      case measure => simp [intOf]; omega
    · obtain rfl : k = 4096 := by omega
      clear hk hge
      have HL := hid (counted_length 0 4096)
      have y1 : 0 ≤ x % 4096 := by omega
      have y2 : x % 4096 < 4096 := by omega
      have HY := hid (show (counted 0 4096)[(x % 4096).toNat]? = some ⟨0, x % 4096, 0, [], []⟩ by rw [counted_at 0 (by omega), Int.toNat_of_nonneg y1])
      generalize counted 0 4096 = L at HS HL HY
      have HL' := hid (show 4096 ≤ L.length by rw [HL.out]; exact Nat.le_refl _)
      have HL2 := hid (show ((L.length : Nat) : Int) = 4096 by rw [HL.out]; rfl)
      have HL3 := hid (show (((L.length + 7) / 8 : Nat) : Int) = 512 by rw [HL.out]; rfl)
      go_wp2_with (go_at_call 14; refine (HS.out.full HL'.out ⟨0, n, 0, [], []⟩ (.slice none 0 0) (.slice none 0 0)).mono ?_; rintro e w2 ⟨rfl, hb2⟩; have HS2 := hid (HS.out.below hb2); have s2 := hb2.size; have HB2 := hid (HB.out.trans (hb2.mono s1)); clear hb2)
      have y3 : x.tmod 4096 = x % 4096 := Int.tmod_eq_emod_of_nonneg hx0
      go_wp2_with (go_at_call 15; refine (HS2.out.get (by omega) y1 HY.out).mono ?_; rintro e w3 ⟨A, m, cap, A', m', cap', rfl, hb3, -⟩; have s3 := hb3.size; have HB3 := hid hb3; clear hb3)
      have hb4 := HB3.out.alloc s3 (.cells #[.int .i64 0, .int .i64 (x % 4096), .int .i64 0, .slice A m cap, .slice A' m' cap'] 31)
      have HS4 := hid (HS2.out.below hb4)
      have HB4 := hid (HB2.out.trans (Below.mono hb4 (by omega)))
      have s4 := hb4.size
      have q1 := (cell_of_row _ _ 1 _ _ _ (heap_alloc_new w3 (.cells #[.int .i64 0, .int .i64 (x % 4096), .int .i64 0, .slice A m cap, .slice A' m' cap'] 31))).trans (b := some (Value.int IntKind.i64 (x % 4096))) rfl
      clear hb4
      generalize (w3.alloc (.cells #[.int .i64 0, .int .i64 (x % 4096), .int .i64 0, .slice A m cap, .slice A' m' cap'] 31)) = w4 at HS4 HB4 s4 q1 ⊢
      go_wp2_with (first | (go_at_call 16; refine (err_c _ _).mono ?_; rintro e w' ⟨rfl, rfl⟩) | (go_at_call 18; refine (HS4.out.live HL3.out).mono ?_; rintro e w' ⟨rfl, rfl⟩) | (go_at_call 17; refine (HS4.out.len HL2.out).mono ?_; rintro e w' ⟨rfl, rfl⟩))
      refine (awake_c _).mono ?_
      rintro e w5 ⟨rfl, hb5⟩
      have HB5 := hid (HB4.out.trans (Below.mono hb5 (by omega)))
      go_wp2_with fail
      go_ret
      exact ⟨rfl, HB5.out⟩
end Go.Proofs.Ytljbdmmidajmdaa.Pg
