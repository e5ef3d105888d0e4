/- A book and its mark, dropped one behind the other. -/
import Derived.Test.YtljbdmmidajmdaaPg28
namespace Go.Proofs.Ytljbdmmidajmdaa.Pg
open Go.RowKit

def After1 (B : Nat) (w : World) (b m k : Nat) : Prop := ∃ D lb ps, Fam B w D ∧ Books D [b, m] [{ cells := lb, pgs := ps, gone := false }, { cells := [], pgs := [], gone := true }] ∧ lb.length = k
def After2 (B : Nat) (w : World) (b m : Nat) : Prop := ∃ D, Fam B w D ∧ Books D [b, m] [{ cells := [], pgs := [], gone := true }, { cells := [], pgs := [], gone := true }]
section
variable {B : Nat} {w : World} {D : FD} {b m k : Nat} {l lm : List CD} {dirty : Nat → Bool}
theorem Solo.mark (h : Solo B w b l) (hB : B ≤ w.heap.size) (hl : l.length = k) :
    Calls Try.prog 20 #[ptr b] w fun e w' => ∃ m, e = .returned (.pointer (some ⟨m, 0, none⟩)) ∧ (∃ D', Wrote B w' D' b m k l (fun _ => false)) ∧ Below B w w' := by
  obtain ⟨D, ps, hF, hS⟩ := h
  refine (Mark hF hB hS (by simp) (i := 0) rfl rfl rfl).mono ?_
  rintro e w' ⟨m, rfl, D', _, hF', hG, hS'⟩
  exact ⟨m, rfl, ⟨D', l, ps, ps, hF', hS', hl, hl, fun j p hj => ⟨(fun e => by cases e), fun _ => List.mem_of_getElem? hj⟩⟩, hG.low hF hB⟩
theorem Wrote.get (h : Wrote B w D b m k lm dirty) (hB : B ≤ w.heap.size) {x : Int} (h0 : 0 ≤ x) {c : CD} (hk : lm[x.toNat]? = some c) :
    Calls Try.prog 15 #[ptr m, .int .i64 x] w fun e w' => ∃ A n cap A' n' cap', e = .returned (.tuple #[.agg #[.int .i64 c.kind, .int .i64 c.a, .int .i64 c.b, .slice A n cap, .slice A' n' cap'], .int .i64 0]) ∧ Below w.heap.size w w' ∧ Reads B w' c (.slice A n cap) (.slice A' n' cap') := by
  obtain ⟨lb, ps, qs, h1, h2, h3, h4, h5⟩ := h
  exact GetIs h1 hB h2 (i := 1) rfl rfl x h0 hk
theorem Wrote.drop (h : Wrote B w D b m k lm dirty) (hB : B ≤ w.heap.size) :
    Calls Try.prog 25 #[ptr m] w fun e w' => e = .returned (.tuple #[]) ∧ After1 B w' b m k ∧ Below B w w' := by
  obtain ⟨lb, ps, qs, h1, h2, h3, h4, h5⟩ := h
  refine (Drop h1 h2 (by simp) (i := 1) rfl rfl rfl).mono ?_
  rintro e w' ⟨rfl, D', hF', hG, hS'⟩
  exact ⟨rfl, ⟨D', lb, ps, hF', hS', h3⟩, hG.low h1 hB⟩
theorem After1.live (h : After1 B w b m k) {n : Int} (hn : (((k + 7) / 8 : Nat) : Int) = n) : Calls Try.prog 18 #[ptr b] w fun e w' => e = .returned (.int .i64 n) ∧ w' = w := by
  obtain ⟨D, lb, ps, h1, h2, h3⟩ := h
  have hw := h2.wf _ List.mem_cons_self
  have hl := hw.len
  simp only [] at hl
  rw [h3] at hl
  exact LiveIs h1 h2 (i := 0) rfl rfl (by rw [show allPgs [{ cells := lb, pgs := ps, gone := false }, { cells := [], pgs := [], gone := true }] = ps by simp [allPgs], distinct_nodup hw.nd]; rw [hl]; exact hn)
theorem After1.drop (h : After1 B w b m k) (hB : B ≤ w.heap.size) :
    Calls Try.prog 25 #[ptr b] w fun e w' => e = .returned (.tuple #[]) ∧ After2 B w' b m ∧ Below B w w' := by
  obtain ⟨D, lb, ps, h1, h2, h3⟩ := h
  refine (Drop h1 h2 (by simp) (i := 0) rfl rfl rfl).mono ?_
  rintro e w' ⟨rfl, D', hF', hG, hS'⟩
  exact ⟨rfl, ⟨D', hF', hS'⟩, hG.low h1 hB⟩
theorem After2.below (h : After2 B w b m) {w' : World} (hb : Below w.heap.size w w') : After2 B w' b m := by
  obtain ⟨D, h1, h2⟩ := h
  exact ⟨D, h1.below hb, h2⟩
theorem After2.live (h : After2 B w b m) : Calls Try.prog 18 #[ptr b] w fun e w' => e = .returned (.int .i64 0) ∧ w' = w := by
  obtain ⟨D, h1, h2⟩ := h
  exact LiveIs h1 h2 (i := 0) rfl rfl rfl
theorem After2.get (h : After2 B w b m) : Calls Try.prog 15 #[ptr b, .int .i64 0] w fun e w' => e = .returned (.tuple #[.agg #[.int .i64 0, .int .i64 0, .int .i64 0, .slice none 0 0, .slice none 0 0], .int .i64 2]) ∧ Below w.heap.size w w' := by
  obtain ⟨D, h1, h2⟩ := h
  exact Get_no h1 h2 (i := 0) rfl rfl 0 (.inr (by simp))
theorem After2.mark (h : After2 B w b m) : Calls Try.prog 20 #[ptr b] w fun e w' => e = .returned (.pointer none) ∧ w' = w := by
  obtain ⟨D, h1, h2⟩ := h
  exact Mark_gone h1 h2 (i := 0) rfl rfl rfl
end

/-- The bools that tell which pages were written on, in a block of the law's own. -/
structure Flags (w : World) (D : FD) (d : Nat) (dirty : Nat → Bool) : Prop where
  at_ : ∀ j, j < 8 → w.cell? ⟨d, j, none⟩ = some (.bool (dirty j))
  fz : ∀ j, w.frozen? ⟨d, j, none⟩ = false
  typ : Typ w d 4
  no : ¬ Foot D d
section
variable {B : Nat} {w w' : World} {D D' : FD} {d : Nat} {dirty : Nat → Bool}
theorem Flags.same (h : Flags w D d dirty) (hb : w'.heap[d]? = w.heap[d]?) (hn : ¬ Foot D' d) : Flags w' D' d dirty :=
  ⟨fun j hj => (World.cell?_of_block (w := w) (a := ⟨d, j, none⟩) hb).trans (h.at_ j hj), fun j => (World.frozen?_of_block (w := w) (a := ⟨d, j, none⟩) hb).trans (h.fz j), h.typ.move hb, hn⟩
theorem Flags.goes (h : Flags w D d dirty) (hG : Goes B w D w' D') : Flags w' D' d dirty :=
  h.same (hG.keep d h.typ.lt h.no) (fun hf => (hG.foot d hf).elim h.no (fun e => by have := h.typ.lt; omega))
theorem Flags.below (h : Flags w D d dirty) (hb : Below w.heap.size w w') : Flags w' D d dirty := h.same (hb.block d h.typ.lt) h.no
theorem Flags.put (h : Flags w D d dirty) {x : Nat} (hx : x < 8) : Flags (w.setCell ⟨d, x, none⟩ (.bool true)) D d (fun j => dirty j || decide (j = x)) := by
  refine ⟨fun j hj => ?_, fun j => (World.frozen?_setCell _ _ _ _).trans (h.fz j), h.typ.set _ _, h.no⟩
  by_cases he : j = x
  · subst he
    rw [World.cell?_setCell_same (h := h.at_ j hj)]
    simp
  · rw [World.cell?_setCell_other (h := fun e => he (congrArg Addr.off e).symm), h.at_ j hj]
    simp [he]
theorem Flags.fam (h : Flags w D d dirty) (hF : Fam B w D) (hB : B ≤ d) (x : Nat) : Fam B (w.setCell ⟨d, x, none⟩ (.bool true)) D :=
  have hf : Fr B w (w.setCell ⟨d, x, none⟩ (.bool true)) := Fr.set (p := ⟨d, x, none⟩) _ h.typ (by decide) (by decide) hB
  have hk : ∀ k, Foot D k → (w.setCell ⟨d, x, none⟩ (.bool true)).heap[k]? = w.heap[k]? := fun k hk => set_ne _ (fun e => h.no (e ▸ hk))
  hF.move hf hk
end
end Go.Proofs.Ytljbdmmidajmdaa.Pg
