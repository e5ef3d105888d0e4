/- Two families of one book each, side by side. -/
import Derived.Test.YtljbdmmidajmdaaPg21
namespace Go.Proofs.Ytljbdmmidajmdaa.Pg
open Go.RowKit

/-- Two families that share no memory. -/
structure Two (B : Nat) (w : World) (D E : FD) : Prop where
  l : Fam B w D
  r : Fam B w E
  d : ∀ k, Foot D k → ¬ Foot E k
theorem Two.left {B : Nat} {w w' : World} {D D' E : FD} (h : Two B w D E) (hG : Goes B w D w' D') (hF : Fam B w' D') : Two B w' D' E :=
  ⟨hF, hG.other h.r (fun k hk hk' => h.d k hk' hk), fun k hk hk' => (hG.foot k hk).elim (fun e => h.d k e hk') (fun e => by have := (h.r.foot_lt hk').1; omega)⟩
theorem Two.swap {B : Nat} {w : World} {D E : FD} (h : Two B w D E) : Two B w E D := ⟨h.r, h.l, fun k hk hk' => h.d k hk' hk⟩
theorem Two.below {B : Nat} {w w' : World} {D E : FD} (h : Two B w D E) (hb : Below w.heap.size w w') : Two B w' D E := ⟨h.l.below hb, h.r.below hb, h.d⟩

/-- Two families of one book each, with these cells. -/
def Pair (B : Nat) (w : World) (a : Nat) (la : List CD) (b : Nat) (lb : List CD) : Prop :=
  ∃ D ps E qs, Two B w D E ∧ Books D [a] [{ cells := la, pgs := ps, gone := false }] ∧ Books E [b] [{ cells := lb, pgs := qs, gone := false }]

section
variable {B : Nat} {w : World} {a b : Nat} {la lb : List CD}
theorem Pair.swap (h : Pair B w a la b lb) : Pair B w b lb a la := by
  obtain ⟨D, ps, E, qs, h1, h2, h3⟩ := h
  exact ⟨E, qs, D, ps, h1.swap, h3, h2⟩
theorem Pair.below (h : Pair B w a la b lb) {w' : World} (hb : Below w.heap.size w w') : Pair B w' a la b lb := by
  obtain ⟨D, ps, E, qs, h1, h2, h3⟩ := h
  exact ⟨D, ps, E, qs, h1.below hb, h2, h3⟩
theorem Pair.add (h : Pair B w a la b lb) (hB : B ≤ w.heap.size) (hl : la.length < 4096) {c : CD} {ks vl : Value} (hr : Reads B w c ks vl) (hc : c.small) :
    Calls Try.prog 14 #[ptr a, aggC c ks vl] w fun e w' => e = .returned (.tuple #[.int .i64 (la.length : Nat), .int .i64 0]) ∧ Pair B w' a (la ++ [c]) b lb ∧ Below B w w' := by
  obtain ⟨D, ps, E, qs, h1, h2, h3⟩ := h
  refine (Add h1.l hB h2 (by simp) (i := 0) rfl rfl rfl hl hr hc).mono ?_
  rintro e w' ⟨rfl, D', ps', _, hF', hG, hS'⟩
  exact ⟨rfl, ⟨D', ps', E, qs, h1.left hG hF', hS', h3⟩, hG.low h1.l hB⟩
theorem Pair.set (h : Pair B w a la b lb) (hB : B ≤ w.heap.size) {k : Int} (h0 : 0 ≤ k) (hk : k.toNat < la.length) {c : CD} {ks vl : Value} (hr : Reads B w c ks vl) (hc : c.small) :
    Calls Try.prog 21 #[ptr a, .int .i64 k, aggC c ks vl] w fun e w' => e = .returned (.int .i64 0) ∧ Pair B w' a (la.set k.toNat c) b lb ∧ Below B w w' := by
  obtain ⟨D, ps, E, qs, h1, h2, h3⟩ := h
  have := Set h1.l hB h2 (by simp) (i := 0) rfl rfl k.toNat hk hr hc
  rw [Int.toNat_of_nonneg h0] at this
  refine this.mono ?_
  rintro e w' ⟨rfl, D', ps', _, hF', hG, hS'⟩
  exact ⟨rfl, ⟨D', ps', E, qs, h1.left hG hF', hS', h3⟩, hG.low h1.l hB⟩
theorem Pair.get (h : Pair B w a la b lb) (hB : B ≤ w.heap.size) {k : Int} (h0 : 0 ≤ k) {c : CD} (hk : la[k.toNat]? = some c) :
    Calls Try.prog 15 #[ptr a, .int .i64 k] w fun e w' => ∃ A n cap A' n' cap', e = .returned (.tuple #[.agg #[.int .i64 c.kind, .int .i64 c.a, .int .i64 c.b, .slice A n cap, .slice A' n' cap'], .int .i64 0]) ∧ Below w.heap.size w w' ∧ Reads B w' c (.slice A n cap) (.slice A' n' cap') := by
  obtain ⟨D, ps, E, qs, h1, h2, h3⟩ := h
  exact GetIs h1.l hB h2 (i := 0) rfl rfl k h0 hk
end

/-- What is left of one family's two books when the first one is dropped: the second one's cells, beside another family's book. -/
def Left (B : Nat) (w : World) (a m : Nat) (la : List CD) (b : Nat) (lb : List CD) : Prop :=
  ∃ D ps E qs, Two B w D E ∧ Books D [a, m] [{ cells := [], pgs := [], gone := true }, { cells := la, pgs := ps, gone := false }] ∧ Books E [b] [{ cells := lb, pgs := qs, gone := false }]
def Both (B : Nat) (w : World) (a m : Nat) (la : List CD) (b : Nat) (lb : List CD) : Prop :=
  ∃ D ps E qs, Two B w D E ∧ Books D [a, m] [{ cells := la, pgs := ps, gone := false }, { cells := la, pgs := ps, gone := false }] ∧ Books E [b] [{ cells := lb, pgs := qs, gone := false }]
section
variable {B : Nat} {w : World} {a b m : Nat} {la lb : List CD}
theorem Pair.mark (h : Pair B w a la b lb) (hB : B ≤ w.heap.size) :
    Calls Try.prog 20 #[ptr a] w fun e w' => ∃ m, e = .returned (.pointer (some ⟨m, 0, none⟩)) ∧ Both B w' a m la b lb ∧ Below B w w' := by
  obtain ⟨D, ps, E, qs, h1, h2, h3⟩ := h
  refine (Mark h1.l hB h2 (by simp) (i := 0) rfl rfl rfl).mono ?_
  rintro e w' ⟨m, rfl, D', _, hF', hG, hS'⟩
  exact ⟨m, rfl, ⟨D', ps, E, qs, h1.left hG hF', hS', h3⟩, hG.low h1.l hB⟩
theorem Both.drop (h : Both B w a m la b lb) (hB : B ≤ w.heap.size) :
    Calls Try.prog 25 #[ptr a] w fun e w' => e = .returned (.tuple #[]) ∧ Left B w' a m la b lb ∧ Below B w w' := by
  obtain ⟨D, ps, E, qs, h1, h2, h3⟩ := h
  refine (Drop h1.l h2 (by simp) (i := 0) rfl rfl rfl).mono ?_
  rintro e w' ⟨rfl, D', hF', hG, hS'⟩
  exact ⟨rfl, ⟨D', ps, E, qs, h1.left hG hF', hS', h3⟩, hG.low h1.l hB⟩
theorem Left.set (h : Left B w a m la b lb) (hB : B ≤ w.heap.size) {k : Int} (h0 : 0 ≤ k) (hk : k.toNat < la.length) {c : CD} {ks vl : Value} (hr : Reads B w c ks vl) (hc : c.small) :
    Calls Try.prog 21 #[ptr m, .int .i64 k, aggC c ks vl] w fun e w' => e = .returned (.int .i64 0) ∧ Left B w' a m (la.set k.toNat c) b lb ∧ Below B w w' := by
  obtain ⟨D, ps, E, qs, h1, h2, h3⟩ := h
  have := Set h1.l hB h2 (by simp) (i := 1) rfl rfl k.toNat hk hr hc
  rw [Int.toNat_of_nonneg h0] at this
  refine this.mono ?_
  rintro e w' ⟨rfl, D', ps', _, hF', hG, hS'⟩
  exact ⟨rfl, ⟨D', ps', E, qs, h1.left hG hF', hS', h3⟩, hG.low h1.l hB⟩
theorem Left.live (h : Left B w a m la b lb) {n : Int} (hn : (((la.length + 7) / 8 : Nat) : Int) = n) : Calls Try.prog 18 #[ptr m] w fun e w' => e = .returned (.int .i64 n) ∧ w' = w := by
  obtain ⟨D, ps, E, qs, h1, h2, h3⟩ := h
  have := distinct_one (h2.wf _ (List.mem_cons_of_mem _ List.mem_cons_self))
  exact LiveIs h1.l h2 (i := 1) rfl rfl (by rw [show allPgs [{ cells := [], pgs := [], gone := true }, { cells := la, pgs := ps, gone := false }] = allPgs [{ cells := la, pgs := ps, gone := false }] from rfl, this]; exact hn)
theorem Left.liveB (h : Left B w a m la b lb) {n : Int} (hn : (((lb.length + 7) / 8 : Nat) : Int) = n) : Calls Try.prog 18 #[ptr b] w fun e w' => e = .returned (.int .i64 n) ∧ w' = w := by
  obtain ⟨D, ps, E, qs, h1, h2, h3⟩ := h
  have := distinct_one (h3.wf _ List.mem_cons_self)
  exact LiveIs h1.r h3 (i := 0) rfl rfl (by rw [this]; exact hn)
theorem Left.len (h : Left B w a m la b lb) {n : Int} (hn : ((la.length : Nat) : Int) = n) : Calls Try.prog 17 #[ptr m] w fun e w' => e = .returned (.int .i64 n) ∧ w' = w := by
  obtain ⟨D, ps, E, qs, h1, h2, h3⟩ := h
  exact LenIs h1.l h2 (i := 1) rfl rfl hn
theorem Left.lenA (h : Left B w a m la b lb) : Calls Try.prog 17 #[ptr a] w fun e w' => e = .returned (.int .i64 0) ∧ w' = w := by
  obtain ⟨D, ps, E, qs, h1, h2, h3⟩ := h
  exact LenIs h1.l h2 (i := 0) rfl rfl rfl
end
end Go.Proofs.Ytljbdmmidajmdaa.Pg
