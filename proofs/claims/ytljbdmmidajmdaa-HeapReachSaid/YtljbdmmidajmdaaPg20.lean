/- The document's example of package pages, in one contract. -/
import Derived.Test.YtljbdmmidajmdaaPg19
namespace Go.Proofs.Ytljbdmmidajmdaa.Pg
open Go.RowKit

theorem Goes.low {B : Nat} {w w' : World} {D D' : FD} (h : Goes B w D w' D') (hF : Fam B w D) (hB : B ≤ w.heap.size) : Below B w w' :=
  ⟨h.fr.os, h.fr.tape, h.fr.output, h.fr.size, fun k hk => h.keep k (by omega) (fun hf => by have := (hF.foot_lt hf).2; omega)⟩
theorem noReads {B : Nat} {w : World} (kind a b : Int) : Reads B w ⟨kind, a, b, [], []⟩ (.slice none 0 0) (.slice none 0 0) := ⟨RowR.nil _ _ _, RowR.nil _ _ _⟩
theorem noSmall (kind a b : Int) : (⟨kind, a, b, [], []⟩ : CD).small := ⟨by simp, by simp⟩

set_option maxRecDepth 100000 in
theorem err_c (x : Int) (w : World) : Calls Try.prog 16 #[.int .i64 x] w fun e w' => e = .returned (.int .i64 x) ∧ w' = w := by
  go_enter Try.func16, Try.ntmps16
  go_wp2_with fail
  go_ret
  exact ⟨rfl, rfl⟩

section
variable {B : Nat} {w : World} {D : FD} {bs : List Nat} {S : List SB} {i b : Nat} {s : SB}
theorem LenIs (h : Fam B w D) (hS : Books D bs S) (hb : bs[i]? = some b) (hs : S[i]? = some s) {n : Int} (hn : ((s.cells.length : Nat) : Int) = n) : Calls Try.prog 17 #[ptr b] w fun e w' => e = .returned (.int .i64 n) ∧ w' = w := hn ▸ Len h hS hb hs
theorem LiveIs (h : Fam B w D) (hS : Books D bs S) (hb : bs[i]? = some b) (hs : S[i]? = some s) {n : Int} (hn : ((distinct (allPgs S) : Nat) : Int) = n) : Calls Try.prog 18 #[ptr b] w fun e w' => e = .returned (.int .i64 n) ∧ w' = w := hn ▸ Live h hS hb hs
theorem AddIs (h : Fam B w D) (hB : B ≤ w.heap.size) (hS : Books D bs S) (hn : S.length ≤ 1000) (hb : bs[i]? = some b) (hs : S[i]? = some s) (hg : s.gone = false) (hf : s.cells.length < 4096) {c : CD} {ks vl : Value} (hr : Reads B w c ks vl) (hc : c.small) {n : Int} (hn : ((s.cells.length : Nat) : Int) = n) :
    Calls Try.prog 14 #[ptr b, aggC c ks vl] w fun e w' => e = .returned (.tuple #[.int .i64 n, .int .i64 0]) ∧
      ∃ D' ps, OwnRel S s (s.cells.length / 8) ps ∧ Fam B w' D' ∧ Goes B w D w' D' ∧ Books D' bs (S.set i { s with cells := s.cells ++ [c], pgs := ps }) := hn ▸ Add h hB hS ‹_› hb hs hg hf hr hc
theorem GetIs (h : Fam B w D) (hB : B ≤ w.heap.size) (hS : Books D bs S) (hb : bs[i]? = some b) (hs : S[i]? = some s) (k : Int) (h0 : 0 ≤ k) {c : CD} (hk : s.cells[k.toNat]? = some c) :
    Calls Try.prog 15 #[ptr b, .int .i64 k] w fun e w' => ∃ A n cap A' n' cap', e = .returned (.tuple #[.agg #[.int .i64 c.kind, .int .i64 c.a, .int .i64 c.b, .slice A n cap, .slice A' n' cap'], .int .i64 0]) ∧ Below w.heap.size w w' ∧ Reads B w' c (.slice A n cap) (.slice A' n' cap') := by
  have := Get h hB hS hb hs k.toNat hk
  rw [Int.toNat_of_nonneg h0] at this
  refine this.mono ?_
  rintro e w' ⟨ks, vl, rfl, h1, h2⟩
  obtain ⟨A, n, cap, rfl, -⟩ := id h2.k
  obtain ⟨A', n', cap', rfl, -⟩ := id h2.v
  exact ⟨_, _, _, _, _, _, rfl, h1, h2⟩
theorem distinct_one {s : SB} (h : s.Wf) : distinct (allPgs [s]) = (s.cells.length + 7) / 8 := by
  rw [← h.len]
  simp only [allPgs, List.flatMap_cons, List.flatMap_nil, List.append_nil]
  exact distinct_nodup h.nd
end

set_option maxHeartbeats 1600000 in
set_option maxRecDepth 100000 in
theorem awake_c (w : World) : Calls Try.prog 19 #[] w fun e w' => e = .returned (.bool true) ∧ Below w.heap.size w w' := by
  go_enter Try.func19, Try.ntmps19
  go_wp2_with (go_at_call 13; refine (New (B := w.heap.size) (Nat.le_refl _)).mono ?_; rintro e w1 ⟨b, rfl, D, hF, hb, -, -, hS⟩; have HF := hid hF; have HB := hid hb; have HS := hid hS; clear hF hb hS)
  go_wp2_with (go_at_call 18; refine (LiveIs HF.out HS.out (i := 0) rfl rfl (n := 0) rfl).mono ?_; rintro e w' ⟨rfl, rfl⟩)
  have s1 := HB.out.size
  refine (AddIs HF.out (by omega) HS.out (by decide) (i := 0) rfl rfl rfl (by decide) (c := ⟨3, 0, 0, [], []⟩) (noReads _ _ _) (noSmall _ _ _) (n := 0) rfl).mono ?_
  rintro e w2 ⟨rfl, D2, ps, -, hF2, hG2, hS2⟩
  have s2 := hG2.fr.size
  have HF2 := hid hF2
  have HL2 := hid (hG2.low HF.out s1)
  have HS2 := hid (show Books D2 [b] [{ cells := [⟨3, 0, 0, [], []⟩], pgs := ps, gone := false }] from hS2)
  have HD2 := hid (distinct_one (HS2.out.wf _ List.mem_cons_self))
  clear hF2 hG2 hS2
  go_wp2_with (go_at_call 15; refine (GetIs HF2.out (by omega) HS2.out (i := 0) rfl rfl 0 (by decide) (c := ⟨3, 0, 0, [], []⟩) rfl).mono ?_; rintro e w3 ⟨A, n, cap, A', n', cap', rfl, hb3, -⟩; have s3 := hb3.size; have HB3 := hid hb3; clear hb3)
  have hb4 := HB3.out.alloc s3 (.cells #[.int .i64 3, .int .i64 0, .int .i64 0, .slice A n cap, .slice A' n' cap'] 31)
  have HF4 := hid (HF2.out.below hb4)
  have HB4 := hid ((HB.out.trans HL2.out).trans (Below.mono hb4 (by omega)))
  clear HF HB3 hb4 
  generalize (w3.alloc (.cells #[.int .i64 3, .int .i64 0, .int .i64 0, .slice A n cap, .slice A' n' cap'] 31)) = w4 at HF4 HB4 ⊢
  go_wp2_with (first | (go_at_call 16; refine (err_c _ _).mono ?_; rintro e w' ⟨rfl, rfl⟩) | (go_at_call 18; refine (LiveIs HF4.out HS2.out (i := 0) rfl rfl (n := 1) (by rw [HD2.out]; rfl)).mono ?_; rintro e w' ⟨rfl, rfl⟩) | (go_at_call 17; refine (LenIs HF4.out HS2.out (i := 0) rfl rfl (n := 1) rfl).mono ?_; rintro e w' ⟨rfl, rfl⟩))
  go_ret
  exact ⟨rfl, HB4.out⟩
end Go.Proofs.Ytljbdmmidajmdaa.Pg
