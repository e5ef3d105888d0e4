/- The document's example of package pages, in one contract. -/
import Derived.Test.YtdgpblhmfkpblaaPg19
namespace Go.Proofs.Ytdgpblhmfkpblaa.Pg
open Go.RowKit

theorem Goes.low {B : Bd} {w w' : World} {D D' : FD} (h : Goes B w D w' D') (hF : Fam B w D) (hB : B ≤ w.heap.size) : Below B w w' :=
  ⟨h.fr.os, h.fr.tape, h.fr.output, h.fr.size, fun k hk => h.keep k (by omega) (fun hf => by have := (hF.foot_lt hf).2; omega)⟩
theorem noReads {B : Bd} {w : World} (kind a b : Int) : Reads B w ⟨kind, a, b, [], []⟩ (.slice none 0 0) (.slice none 0 0) := ⟨RowR.nil _ _ _, RowR.nil _ _ _⟩
theorem noSmall (kind a b : Int) : (⟨kind, a, b, [], []⟩ : CD).small := ⟨by simp, by simp⟩

set_option maxRecDepth 100000 in
theorem err_c (x : Int) (w : World) : Calls Try.prog 14 #[.int .i64 x] w fun e w' => e = .returned (.int .i64 x) ∧ w' = w := by
  go_enter Try.func14, Try.ntmps14
  go_wp2_with fail
  go_ret
  exact ⟨rfl, rfl⟩

section
variable {B : Bd} {w : World} {D : FD} {bs : List Nat} {S : List SB} {i b : Nat} {s : SB}
theorem LenIs (h : Fam B w D) (hS : Books D bs S) (hb : bs[i]? = some b) (hs : S[i]? = some s) {n : Int} (hn : ((s.cells.length : Nat) : Int) = n) : Calls Try.prog 112 #[ptr b] w fun e w' => e = .returned (.int .i64 n) ∧ w' = w := hn ▸ Len h hS hb hs
theorem AddIs (h : Fam B w D) (hB : B ≤ w.heap.size) (hS : Books D bs S) (hn : S.length ≤ 1000) (hb : bs[i]? = some b) (hs : S[i]? = some s) (hg : s.gone = false) (hf : s.cells.length < 4096) {c : CD} {ks vl : Value} (hr : Reads B w c ks vl) (hc : c.small) {n : Int} (hn : ((s.cells.length : Nat) : Int) = n) :
    Calls Try.prog 85 #[ptr b, aggC c ks vl] w fun e w' => e = .returned (.tuple #[.int .i64 n, .int .i64 0]) ∧
      ∃ D' ps, OwnRel S s (s.cells.length / 8) ps ∧ Fam B w' D' ∧ Goes B w D w' D' ∧ Books D' bs (S.set i { s with cells := s.cells ++ [c], pgs := ps }) := hn ▸ Add h hB hS ‹_› hb hs hg hf hr hc
theorem GetIs (h : Fam B w D) (hB : B ≤ w.heap.size) (hS : Books D bs S) (hb : bs[i]? = some b) (hs : S[i]? = some s) (k : Int) (h0 : 0 ≤ k) {c : CD} (hk : s.cells[k.toNat]? = some c) :
    Calls Try.prog 73 #[ptr b, .int .i64 k] w fun e w' => ∃ A n cap A' n' cap', e = .returned (.tuple #[.agg #[.int .i64 c.kind, .int .i64 c.a, .int .i64 c.b, .slice A n cap, .slice A' n' cap'], .int .i64 0]) ∧ Below w.heap.size w w' ∧ Reads B w' c (.slice A n cap) (.slice A' n' cap') := by
  have := Get h hB hS hb hs k.toNat hk
  rw [Int.toNat_of_nonneg h0] at this
  refine this.mono ?_
  rintro e w' ⟨ks, vl, rfl, h1, h2⟩
  obtain ⟨A, n, cap, rfl, -⟩ := id h2.k
  obtain ⟨A', n', cap', rfl, -⟩ := id h2.v
  exact ⟨_, _, _, _, _, _, rfl, h1, h2⟩
theorem GetIsO (h : Fam B w D) (hB : B ≤ w.heap.size) (hS : Books D bs S) (hb : bs[i]? = some b) (hs : S[i]? = some s) (k : Int) (h0 : 0 ≤ k) {c : CD} (hk : s.cells[k.toNat]? = some c) :
    Calls Try.prog 73 #[ptr b, .int .i64 k] w fun e w' => ∃ A n cap A' n' cap', e = .returned (.tuple #[.agg #[.int .i64 c.kind, .int .i64 c.a, .int .i64 c.b, .slice A n cap, .slice A' n' cap'], .int .i64 0]) ∧ Below w.heap.size w w' ∧ Reads B w' c (.slice A n cap) (.slice A' n' cap') ∧ w'.ownsRow w.heap.size 33 3 (.slice A' n' cap') c.vals.length (c.vals.map VD.row).flatten := by
  have := GetO h hB hS hb hs k.toNat hk
  rw [Int.toNat_of_nonneg h0] at this
  refine this.mono ?_
  rintro e w' ⟨ks, vl, rfl, h1, h2, h3⟩
  obtain ⟨A, n, cap, rfl, -⟩ := id h2.k
  obtain ⟨A', n', cap', rfl, -⟩ := id h2.v
  exact ⟨_, _, _, _, _, _, rfl, h1, h2, h3⟩
theorem distinct_one {s : SB} (h : s.Wf) : distinct (allPgs [s]) = (s.cells.length + 7) / 8 := by
  rw [← h.len]
  simp only [allPgs, List.flatMap_cons, List.flatMap_nil, List.append_nil]
  exact distinct_nodup h.nd
end

end Go.Proofs.Ytdgpblhmfkpblaa.Pg
