/- Heaps that come of one another: what each holds. -/
import Derived.Test.YtdgpblhmfkpblaaPg25
namespace Go.Proofs.Ytdgpblhmfkpblaa.Pg
open Go.RowKit

/-- What a book tells: nothing, if it was dropped. -/
def SB.view (s : SB) : Option (List CD) := if s.gone = true then none else some s.cells
theorem SB.view_some {s : SB} {l : List CD} (h : s.view = some l) : s.gone = false ∧ s.cells = l := by
  unfold SB.view at h
  cases hg : s.gone with
  | true => rw [hg] at h; simp at h
  | false => rw [hg] at h; simp at h; exact ⟨rfl, h⟩
theorem SB.view_none {s : SB} (h : s.view = none) : s.gone = true := by
  unfold SB.view at h
  cases hg : s.gone with
  | true => rfl
  | false => rw [hg] at h; simp at h

/-- Heaps hs that come of one another hold these cells. -/
def Hp (B : Bd) (w : World) (D : FD) (hs : List Nat) (L : List (Option (List CD))) : Prop :=
  ∃ bs S, Fam B w D ∧ Books D bs S ∧ hs.length = bs.length ∧ (∀ (i h b : Nat), hs[i]? = some h → bs[i]? = some b → HOk w h b) ∧ S.map SB.view = L

section
variable {B : Bd} {w : World} {D : FD} {hs : List Nat} {L : List (Option (List CD))} {i a : Nat} {l : List CD}

theorem Hp.below (h : Hp B w D hs L) {w' : World} (hb : Below w.heap.size w w') : Hp B w' D hs L := by
  obtain ⟨bs, S, h1, h2, h3, h4, h5⟩ := h
  exact ⟨bs, S, h1.below hb, h2, h3, fun i x b hx hb' => (h4 i x b hx hb').below hb, h5⟩
theorem map_at {S : List SB} {o : Option (List CD)} (h : (S.map SB.view)[i]? = some o) : ∃ s, S[i]? = some s ∧ s.view = o := by
  rw [List.getElem?_map] at h
  cases hs : S[i]? with
  | none => rw [hs] at h; cases h
  | some s => rw [hs] at h; exact ⟨s, rfl, Option.some.inj h⟩
/-- One of the heaps, opened. -/
theorem Hp.open_ (h : Hp B w D hs L) (ha : hs[i]? = some a) {o : Option (List CD)} (hl : L[i]? = some o) :
    ∃ bs S b s, Fam B w D ∧ Books D bs S ∧ hs.length = bs.length ∧ (∀ (i h b : Nat), hs[i]? = some h → bs[i]? = some b → HOk w h b) ∧ S.map SB.view = L ∧ bs[i]? = some b ∧ S[i]? = some s ∧ s.view = o ∧ HOk w a b := by
  obtain ⟨bs, S, h1, h2, h3, h4, rfl⟩ := h
  obtain ⟨s, hs', hv⟩ := map_at hl
  have hi := (List.getElem?_eq_some_iff.1 ha).1
  rw [h3] at hi
  exact ⟨bs, S, bs[i], s, h1, h2, h3, h4, rfl, List.getElem?_eq_getElem hi, hs', hv, h4 i a _ ha (List.getElem?_eq_getElem hi)⟩
theorem Hp.fam (h : Hp B w D hs L) : Fam B w D := by obtain ⟨_, _, h1, _⟩ := h; exact h1
theorem Hp.len_le (h : Hp B w D hs L) : hs.length = L.length := by
  obtain ⟨bs, S, h1, h2, h3, h4, rfl⟩ := h
  rw [h3, h2.len, List.length_map]

/-- A block that is none of the family's stays, and stays none. -/
structure Apart (w : World) (D : FD) (k : Nat) (o : Obj) : Prop where
  at_ : w.heap[k]? = some o
  no : ¬ Foot D k
theorem Apart.lt {k : Nat} {o : Obj} (h : Apart w D k o) : k < w.heap.size := (Array.getElem?_eq_some_iff.1 h.at_).1
theorem Apart.goes {w' : World} {D' : FD} {k : Nat} {o : Obj} (h : Apart w D k o) (hG : Goes B w D w' D') : Apart w' D' k o :=
  ⟨(hG.keep k h.lt h.no).trans h.at_, fun hf => (hG.foot k hf).elim h.no (fun e => by have := h.lt; omega)⟩
theorem Apart.below {w' : World} {k : Nat} {o : Obj} (h : Apart w D k o) (hb : Below w.heap.size w w') : Apart w' D k o := ⟨(hb.block k h.lt).trans h.at_, h.no⟩
theorem Apart.new (hF : Fam B w D) (o : Obj) : Apart (w.alloc o) D w.heap.size o := ⟨heap_alloc_new w o, fun hf => by have := (hF.foot_lt hf).1; omega⟩

theorem cellBelow (w : World) (o : Obj) : Below w.heap.size w (w.alloc o).drew := ((Below.refl _ _).alloc (Nat.le_refl _) o).drew

theorem Hp.new (w : World) (hB : B ≤ w.heap.size) (hX : ∀ k, B.X k → k < w.heap.size) : Calls Try.prog 43 #[] w fun e w' => ∃ a, e = .returned (.pointer (some ⟨a, 0, none⟩)) ∧ ∃ D, Hp B w' D [a] [some []] ∧ Below w.heap.size w w' ∧ (∀ k, Foot D k → w.heap.size ≤ k) := by
  refine (hnew w (New hB hX)).mono ?_
  rintro e w' ⟨b, w1, rfl, ⟨D, hF, hb, hft, _, hS⟩, rfl⟩
  have hb2 := (Below.refl w1.heap.size w1).alloc (Nat.le_refl _) (.cells #[.pointer (some ⟨b, 0, none⟩)] 140)
  refine ⟨_, rfl, D, ⟨[b], _, hF.below hb2, hS, rfl, ?_, rfl⟩, hb.trans (hb2.mono hb.size), hft⟩
  intro j x y hx hy
  have hj := (List.getElem?_eq_some_iff.1 hx).1
  simp at hj
  subst hj
  simp at hx hy
  subst hx hy
  exact heap_alloc_new _ _
theorem Hp.len (h : Hp B w D hs L) (ha : hs[i]? = some a) (hl : L[i]? = some (some l)) {n : Int} (hn : ((l.length : Nat) : Int) = n) : Calls Try.prog 84 #[ptr a] w fun e w' => e = .returned (.int .i64 n) ∧ w' = w := by
  obtain ⟨bs, S, b, s, h1, h2, h3, h4, h5, hb, hs, hv, hh⟩ := h.open_ ha hl
  obtain ⟨hg, rfl⟩ := SB.view_some hv
  exact hlen hh (LenIs h1 h2 hb hs hn)
theorem Hp.len_gone (h : Hp B w D hs L) (ha : hs[i]? = some a) (hl : L[i]? = some none) : Calls Try.prog 84 #[ptr a] w fun e w' => e = .returned (.int .i64 0) ∧ w' = w := by
  obtain ⟨bs, S, b, s, h1, h2, h3, h4, h5, hb, hs, hv, hh⟩ := h.open_ ha hl
  have := (h2.wf s (List.mem_of_getElem? hs)).gone (SB.view_none hv)
  exact hlen hh (LenIs h1 h2 hb hs (by rw [this]; rfl))
theorem Hp.load (h : Hp B w D hs L) (hB : B ≤ w.heap.size) (ha : hs[i]? = some a) (hl : L[i]? = some (some l)) {k : Int} (h1 : 1 ≤ k) (h2 : k ≤ 1000000) {c : CD} (hk : l[(k - 1).toNat]? = some c) :
    Calls Try.prog 32 #[ptr a, .int .i64 k] w fun e w' => ∃ A n cap A' n' cap', e = .returned (.tuple #[.agg #[.int .i64 c.kind, .int .i64 c.a, .int .i64 c.b, .slice A n cap, .slice A' n' cap'], .int .i64 0]) ∧ Below w.heap.size w w' ∧ Reads B w' c (.slice A n cap) (.slice A' n' cap') := by
  obtain ⟨bs, S, b, s, f1, f2, f3, f4, f5, hb, hs, hv, hh⟩ := h.open_ ha hl
  obtain ⟨hg, rfl⟩ := SB.view_some hv
  have hbl := (Below.refl w.heap.size w).alloc (Nat.le_refl _) (.cells #[.int .i64 0, .int .i64 0, .int .i64 0, .slice none 0 0, .slice none 0 0] 47)
  refine (hload hB hh (k := k) (a0 := c.kind) (a1 := c.a) (a2 := c.b) (x := 0) (by omega) (Q := fun w1 A n cap A' n' cap' => Reads B w1 c (.slice A n cap) (.slice A' n' cap')) ((GetIs (f1.below hbl) (by have := hbl.size; omega) f2 hb hs (k - 1) (by omega) hk).mono ?_)).mono ?_
  · rintro e w' ⟨A, n, cap, A', n', cap', rfl, q1, q2⟩
    exact ⟨A, n, cap, A', n', cap', rfl, q1, q2⟩
  · rintro e w' ⟨w1, A, n, cap, A', n', cap', rfl, q1, q2, q3⟩
    exact ⟨A, n, cap, A', n', cap', rfl, q2, q1.move q3⟩
/-- What is loaded is one's own. -/
theorem Hp.loadO (h : Hp B w D hs L) (hB : B ≤ w.heap.size) (ha : hs[i]? = some a) (hl : L[i]? = some (some l)) {k : Int} (h1 : 1 ≤ k) (h2 : k ≤ 1000000) {c : CD} (hk : l[(k - 1).toNat]? = some c) :
    Calls Try.prog 32 #[ptr a, .int .i64 k] w fun e w' => ∃ A n cap A' n' cap', e = .returned (.tuple #[.agg #[.int .i64 c.kind, .int .i64 c.a, .int .i64 c.b, .slice A n cap, .slice A' n' cap'], .int .i64 0]) ∧ Below w.heap.size w w' ∧ Reads B w' c (.slice A n cap) (.slice A' n' cap') ∧ w'.ownsRow w.heap.size 33 3 (.slice A' n' cap') c.vals.length (c.vals.map VD.row).flatten := by
  obtain ⟨bs, S, b, s, f1, f2, f3, f4, f5, hb, hs, hv, hh⟩ := h.open_ ha hl
  obtain ⟨hg, rfl⟩ := SB.view_some hv
  have hbl := (Below.refl w.heap.size w).alloc (Nat.le_refl _) (.cells #[.int .i64 0, .int .i64 0, .int .i64 0, .slice none 0 0, .slice none 0 0] 47)
  refine (hloadO hB hh (k := k) (a0 := c.kind) (a1 := c.a) (a2 := c.b) (x := 0) (by omega) (Q := fun w1 A n cap A' n' cap' => Reads B w1 c (.slice A n cap) (.slice A' n' cap') ∧ w1.ownsRow (w.heap.size + 1) 33 3 (.slice A' n' cap') c.vals.length (c.vals.map VD.row).flatten) ((GetIsO (f1.below hbl) (by have := hbl.size; omega) f2 hb hs (k - 1) (by omega) hk).mono ?_)).mono ?_
  · rintro e w' ⟨A, n, cap, A', n', cap', rfl, q1, q2, q3⟩
    exact ⟨A, n, cap, A', n', cap', rfl, q1, q2, own_low q3 (by simp)⟩
  · rintro e w' ⟨w1, A, n, cap, A', n', cap', rfl, ⟨q1, q4⟩, q2, q3, q5⟩
    exact ⟨A, n, cap, A', n', cap', rfl, q2, q1.move q3, own_low (q5 _ _ _ _ _ _ (Nat.lt_succ_self _) q4) (Nat.le_succ _)⟩
/-- No cell is there. -/
theorem Hp.load_no (h : Hp B w D hs L) (hB : B ≤ w.heap.size) (ha : hs[i]? = some a) {o : Option (List CD)} (hl : L[i]? = some o) {k : Int} (hk0 : -9223372036854775807 ≤ k ∧ k ≤ 9223372036854775807) (hk : k < 1 ∨ (((o.getD []).length : Nat) : Int) < k) :
    Calls Try.prog 32 #[ptr a, .int .i64 k] w fun e w' => ∃ A n cap A' n' cap', e = .returned (.tuple #[.agg #[.int .i64 0, .int .i64 0, .int .i64 0, .slice A n cap, .slice A' n' cap'], .int .i64 2]) ∧ Below w.heap.size w w' := by
  obtain ⟨bs, S, b, s, f1, f2, f3, f4, f5, hb, hs, hv, hh⟩ := h.open_ ha hl
  have hc : s.cells = o.getD [] := by
    cases o with
    | none => exact (f2.wf s (List.mem_of_getElem? hs)).gone (SB.view_none hv)
    | some l => exact (SB.view_some hv).2
  have hbl := (Below.refl w.heap.size w).alloc (Nat.le_refl _) (.cells #[.int .i64 0, .int .i64 0, .int .i64 0, .slice none 0 0, .slice none 0 0] 47)
  refine (hload hB hh (k := k) (a0 := 0) (a1 := 0) (a2 := 0) (x := 2) hk0 (Q := fun w1 A n cap A' n' cap' => True) ((Get_no (f1.below hbl) f2 hb hs (k - 1) (by rw [hc]; omega)).mono ?_)).mono ?_
  · rintro e w' ⟨rfl, q1⟩
    exact ⟨none, 0, 0, none, 0, 0, rfl, q1, trivial⟩
  · rintro e w' ⟨w1, A, n, cap, A', n', cap', rfl, q1, q2, q3⟩
    exact ⟨A, n, cap, A', n', cap', rfl, q2⟩
theorem Hp.alloc (h : Hp B w D hs L) (hB : B ≤ w.heap.size) (hL : L.length ≤ 1000) (ha : hs[i]? = some a) (hl : L[i]? = some (some l)) (hn : l.length < 4096) {c : CD} {A A' : Option Addr} {n cap n' cap' : Nat} (hr : Reads B w c (.slice A n cap) (.slice A' n' cap')) (hc : c.small) :
    Calls Try.prog 47 #[ptr a, .agg #[.int .i64 c.kind, .int .i64 c.a, .int .i64 c.b, .slice A n cap, .slice A' n' cap']] w fun e w' => e = .returned (.tuple #[.int .i64 ((l.length : Nat) + 1), .int .i64 0]) ∧ ∃ D', Hp B w' D' hs (L.set i (some (l ++ [c]))) ∧ Goes B w D w' D' := by
  obtain ⟨bs, S, b, s, f1, f2, f3, f4, f5, hb, hs', hv, hh⟩ := h.open_ ha hl
  obtain ⟨hg, rfl⟩ := SB.view_some hv
  have hbl := cellBelow w (.cells #[.int .i64 c.kind, .int .i64 c.a, .int .i64 c.b, .slice A n cap, .slice A' n' cap'] 47)
  have hSL : S.length ≤ 1000 := by rw [← f5, List.length_map] at hL; exact hL
  refine (halloc hh (i := (s.cells.length : Nat)) (by omega) (Q := fun w' => ∃ D', Hp B w' D' hs (L.set i (some (s.cells ++ [c]))) ∧ Goes B w D w' D') ((AddIs (f1.below hbl) (by have := hbl.size; omega) f2 hSL hb hs' hg hn (hr.move (Fr.of_below hbl)) hc rfl).mono ?_))
  rintro e w' ⟨rfl, D', ps, _, g1, g2, g3⟩
  refine ⟨rfl, D', ⟨bs, _, g1, g3, f3, fun j x y hx hy => ((f4 j x y hx hy).below hbl).goes (f1.below hbl) g2, ?_⟩, (Goes.below D hbl).trans g2⟩
  rw [List.map_set, f5]
  simp [SB.view, hg]
theorem Hp.store (h : Hp B w D hs L) (hB : B ≤ w.heap.size) (hL : L.length ≤ 1000) (ha : hs[i]? = some a) (hl : L[i]? = some (some l)) {k : Int} (h1 : 1 ≤ k) (h2 : k ≤ 1000000) (hk : (k - 1).toNat < l.length) {c : CD} {A A' : Option Addr} {n cap n' cap' : Nat} (hr : Reads B w c (.slice A n cap) (.slice A' n' cap')) (hc : c.small) :
    Calls Try.prog 70 #[ptr a, .int .i64 k, .agg #[.int .i64 c.kind, .int .i64 c.a, .int .i64 c.b, .slice A n cap, .slice A' n' cap']] w fun e w' => e = .returned (.int .i64 0) ∧ ∃ D', Hp B w' D' hs (L.set i (some (l.set (k - 1).toNat c))) ∧ Goes B w D w' D' := by
  obtain ⟨bs, S, b, s, f1, f2, f3, f4, f5, hb, hs', hv, hh⟩ := h.open_ ha hl
  obtain ⟨hg, rfl⟩ := SB.view_some hv
  have hbl := cellBelow w (.cells #[.int .i64 c.kind, .int .i64 c.a, .int .i64 c.b, .slice A n cap, .slice A' n' cap'] 47)
  have hSL : S.length ≤ 1000 := by rw [← f5, List.length_map] at hL; exact hL
  have hSet := Set (f1.below hbl) (by have := hbl.size; omega) f2 hSL hb hs' (k - 1).toNat hk (hr.move (Fr.of_below hbl)) hc
  rw [Int.toNat_of_nonneg (by omega)] at hSet
  refine (hstore hh (k := k) (by omega) (Q := fun w' => ∃ D', Hp B w' D' hs (L.set i (some (s.cells.set (k - 1).toNat c))) ∧ Goes B w D w' D') (hSet.mono ?_))
  rintro e w' ⟨rfl, D', ps, _, g1, g2, g3⟩
  refine ⟨rfl, D', ⟨bs, _, g1, g3, f3, fun j x y hx hy => ((f4 j x y hx hy).below hbl).goes (f1.below hbl) g2, ?_⟩, (Goes.below D hbl).trans g2⟩
  rw [List.map_set, f5]
  simp [SB.view, hg]
theorem Hp.store_no (h : Hp B w D hs L) (ha : hs[i]? = some a) {o : Option (List CD)} (hl : L[i]? = some o) {k : Int} (hk0 : -9223372036854775807 ≤ k ∧ k ≤ 9223372036854775807) (hk : k < 1 ∨ (((o.getD []).length : Nat) : Int) < k) {a0 a1 a2 : Int} {A A' : Option Addr} {n cap n' cap' : Nat} :
    Calls Try.prog 70 #[ptr a, .int .i64 k, .agg #[.int .i64 a0, .int .i64 a1, .int .i64 a2, .slice A n cap, .slice A' n' cap']] w fun e w' => e = .returned (.int .i64 2) ∧ Below w.heap.size w w' := by
  obtain ⟨bs, S, b, s, f1, f2, f3, f4, f5, hb, hs', hv, hh⟩ := h.open_ ha hl
  have hc : s.cells = o.getD [] := by
    cases o with
    | none => exact (f2.wf s (List.mem_of_getElem? hs')).gone (SB.view_none hv)
    | some l => exact (SB.view_some hv).2
  have hbl := cellBelow w (.cells #[.int .i64 a0, .int .i64 a1, .int .i64 a2, .slice A n cap, .slice A' n' cap'] 47)
  refine (hstore hh (k := k) hk0 (Q := fun w' => Below w.heap.size w w') ((Set_no (f1.below hbl) f2 hb hs' (k - 1) (by rw [hc]; omega) ⟨a0, a1, a2, [], []⟩ (.slice A n cap) (.slice A' n' cap')).mono ?_))
  rintro e w' ⟨rfl, q1⟩
  exact ⟨rfl, hbl.trans (q1.mono hbl.size)⟩
theorem Hp.mark (h : Hp B w D hs L) (hB : B ≤ w.heap.size) (hL : L.length ≤ 1000) (ha : hs[i]? = some a) (hl : L[i]? = some (some l)) :
    Calls Try.prog 68 #[ptr a] w fun e w' => ∃ m, e = .returned (.pointer (some ⟨m, 0, none⟩)) ∧ ∃ D', Hp B w' D' (hs ++ [m]) (L ++ [some l]) ∧ Goes B w D w' D' ∧ w.heap.size ≤ m := by
  obtain ⟨bs, S, b, s, f1, f2, f3, f4, f5, hb, hs', hv, hh⟩ := h.open_ ha hl
  obtain ⟨hg, rfl⟩ := SB.view_some hv
  have hSL : S.length ≤ 1000 := by rw [← f5, List.length_map] at hL; exact hL
  refine (hmark hh (Mark f1 hB f2 hSL hb hs' hg)).mono ?_
  rintro e w' ⟨b', w1, rfl, ⟨D', g0, g1, g2, g3⟩, rfl⟩
  have hb2 := (Below.refl w1.heap.size w1).alloc (Nat.le_refl _) (.cells #[.pointer (some ⟨b', 0, none⟩)] 140)
  refine ⟨_, rfl, D', ⟨bs ++ [b'], S ++ [s], g1.below hb2, g3, by simp [f3], ?_, ?_⟩, g2.trans (Goes.below D' hb2), g2.fr.size⟩
  · intro j x y hx hy
    rw [List.getElem?_append] at hx hy
    split at hx
    · rename_i hj
      rw [if_pos (by omega)] at hy
      exact ((f4 j x y hx hy).goes f1 g2).below hb2
    · rename_i hj
      rw [if_neg (by omega)] at hy
      have hj1 := (List.getElem?_eq_some_iff.1 hx).1
      simp at hj1
      rw [show j - hs.length = 0 by omega] at hx
      rw [show j - bs.length = 0 by omega] at hy
      simp at hx hy
      subst hx hy
      exact heap_alloc_new _ _
  · rw [List.map_append, f5]
    simp [SB.view, hg]
theorem allPgs_gone : ∀ {S : List SB}, (∀ s ∈ S, s.Wf) → (S.map SB.view).filterMap id = [] → allPgs S = []
  | [], _, _ => rfl
  | s :: S, hw, h => by
    rw [List.map_cons] at h
    cases hv : s.view with
    | some l => rw [hv] at h; simp at h
    | none =>
      rw [hv] at h
      have h1 := allPgs_gone (S := S) (fun x hx => hw x (List.mem_cons_of_mem _ hx)) (by simpa using h)
      have hs := hw s List.mem_cons_self
      have h2 : s.pgs = [] := List.length_eq_zero_iff.1 (by rw [hs.len, hs.gone (SB.view_none hv)]; rfl)
      simp only [allPgs, List.flatMap_cons] at h1 ⊢
      rw [h1, h2]; rfl
theorem distinct_only : ∀ {S : List SB} {l : List CD}, (∀ s ∈ S, s.Wf) → (S.map SB.view).filterMap id = [l] → distinct (allPgs S) = (l.length + 7) / 8
  | [], _, _, h => by simp at h
  | s :: S, l, hw, h => by
    rw [List.map_cons] at h
    have hs := hw s List.mem_cons_self
    have hS := fun x hx => hw x (List.mem_cons_of_mem _ hx)
    cases hv : s.view with
    | some l' =>
      rw [hv] at h
      simp only [List.filterMap_cons, id] at h
      injection h with e1 e2
      have h1 := allPgs_gone hS e2
      simp only [allPgs, List.flatMap_cons] at h1 ⊢
      rw [h1, List.append_nil, distinct_nodup hs.nd, hs.len, (SB.view_some hv).2, e1]
    | none =>
      rw [hv] at h
      have h1 := distinct_only (S := S) (l := l) hS (by simpa using h)
      have h2 : s.pgs = [] := List.length_eq_zero_iff.1 (by rw [hs.len, hs.gone (SB.view_none hv)]; rfl)
      simp only [allPgs, List.flatMap_cons] at h1 ⊢
      rw [h2, List.nil_append, h1]
end
end Go.Proofs.Ytdgpblhmfkpblaa.Pg
