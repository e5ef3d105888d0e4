/- A book and its mark, while the book is written on. -/
import Derived.Test.YtljbdmmidajmdaaPg27
namespace Go.Proofs.Ytljbdmmidajmdaa.Pg
open Go.RowKit

/-- A book with k cells of which its mark has the first contents; dirty: the pages that were written on since. -/
def Wrote (B : Nat) (w : World) (D : FD) (b m k : Nat) (lm : List CD) (dirty : Nat → Bool) : Prop :=
  ∃ lb ps qs, Fam B w D ∧ Books D [b, m] [{ cells := lb, pgs := ps, gone := false }, { cells := lm, pgs := qs, gone := false }] ∧ lb.length = k ∧ lm.length = k ∧
    (∀ j p, ps[j]? = some p → (dirty j = true → p ∉ qs) ∧ (dirty j = false → p ∈ qs))

section
variable {B : Nat} {w : World} {D : FD} {b m k : Nat} {lm : List CD} {dirty : Nat → Bool}
theorem Wrote.below (h : Wrote B w D b m k lm dirty) {w' : World} (hb : Below w.heap.size w w') : Wrote B w' D b m k lm dirty := by
  obtain ⟨lb, ps, qs, h1, r⟩ := h
  exact ⟨lb, ps, qs, h1.below hb, r⟩
theorem Wrote.fam (h : Wrote B w D b m k lm dirty) : Fam B w D := by obtain ⟨_, _, _, h1, _⟩ := h; exact h1
theorem Wrote.move (h : Wrote B w D b m k lm dirty) {w' : World} (hf : Fam B w' D) : Wrote B w' D b m k lm dirty := by
  obtain ⟨lb, ps, qs, h1, r⟩ := h
  exact ⟨lb, ps, qs, hf, r⟩
theorem Wrote.set (h : Wrote B w D b m k lm dirty) (hB : B ≤ w.heap.size) {x : Int} (h0 : 0 ≤ x) (hk : x.toNat < k) {c : CD} {ks vl : Value} (hr : Reads B w c ks vl) (hc : c.small) :
    Calls Try.prog 21 #[ptr b, .int .i64 x, aggC c ks vl] w fun e w' => e = .returned (.int .i64 0) ∧ ∃ D', Wrote B w' D' b m k lm (fun j => dirty j || decide (j = x.toNat / 8)) ∧ Goes B w D w' D' := by
  obtain ⟨lb, ps, qs, h1, h2, h3, h4, h5⟩ := h
  have := Set h1 hB h2 (by simp) (i := 0) rfl rfl x.toNat (by rw [h3]; exact hk) hr hc
  rw [Int.toNat_of_nonneg h0] at this
  refine this.mono ?_
  rintro e w' ⟨rfl, D', ps', ho, hF', hG, hS'⟩
  refine ⟨rfl, D', ⟨_, ps', qs, hF', hS', by rw [List.length_set]; exact h3, h4, ?_⟩, hG⟩
  have hw := h2.wf _ List.mem_cons_self
  cases ho with
  | @keep p0 hp hcnt =>
    intro j p hj
    simp only [] at hj
    obtain ⟨g1, g2⟩ := h5 j p hj
    by_cases he : j = x.toNat / 8
    · subst he
      obtain rfl : p0 = p := Option.some.inj (hp.symm.trans hj)
      have hn : p0 ∉ qs := fun hm => by
        have q1 := mem_count.1 hm
        have q2 := mem_count.1 (List.mem_of_getElem? hj)
        simp only [allPgs, List.flatMap_cons, List.flatMap_nil, List.append_nil, List.count_append] at hcnt
        omega
      exact ⟨fun _ => hn, fun e => by simp at e⟩
    · simp only [he, decide_false, Bool.or_false]
      exact ⟨g1, g2⟩
  | copy hp hcnt hq =>
    intro j p hj
    simp only [] at hj
    rw [List.getElem?_set] at hj
    split at hj
    · rename_i he
      subst he
      rw [if_pos (List.getElem?_eq_some_iff.1 hp).1] at hj
      obtain rfl := Option.some.inj hj
      refine ⟨fun _ hm => hq ?_, fun e => by simp at e⟩
      simp [allPgs, hm]
    · rename_i he
      have he' : ¬ j = x.toNat / 8 := fun e => he e.symm
      simp only [he', decide_false, Bool.or_false]
      exact h5 j p hj
  | new hk' hq =>
    have := hw.len
    simp only [] at hk' this
    omega

theorem countP_range (P : Nat → Bool) : ∀ (ps : List Nat) (f : Nat → Bool), (∀ j p, ps[j]? = some p → P p = f j) → ps.countP P = (List.range ps.length).countP f
  | [], _, _ => rfl
  | a :: l, f, h => by
    rw [List.length_cons, List.range_succ_eq_map, List.countP_cons, List.countP_cons, List.countP_map, countP_range P l (f ∘ Nat.succ) (fun j p hj => h (j + 1) p (by simpa using hj)), h 0 a rfl]
theorem Wrote.live (h : Wrote B w D b m k lm dirty) {n : Int} (hn : (((k + 7) / 8 + (List.range ((k + 7) / 8)).countP dirty : Nat) : Int) = n) : Calls Try.prog 18 #[ptr b] w fun e w' => e = .returned (.int .i64 n) ∧ w' = w := by
  obtain ⟨lb, ps, qs, h1, h2, h3, h4, h5⟩ := h
  have w1 := h2.wf _ List.mem_cons_self
  have w2 := h2.wf _ (List.mem_cons_of_mem _ List.mem_cons_self)
  refine LiveIs h1 h2 (i := 0) rfl rfl ?_
  rw [show allPgs [{ cells := lb, pgs := ps, gone := false }, { cells := lm, pgs := qs, gone := false }] = ps ++ qs by simp [allPgs], distinct_append _ w1.nd, distinct_nodup w2.nd]
  rw [countP_range (fun p => decide (p ∉ qs)) ps dirty ?_]
  · have l1 := w1.len
    have l2 := w2.len
    simp only [] at l1 l2
    rw [h3] at l1
    rw [h4] at l2
    rw [l1, l2, ← hn]
    omega
  · intro j p hj
    obtain ⟨g1, g2⟩ := h5 j p hj
    cases hd : dirty j with
    | true => simp [g1 hd]
    | false => simp [g2 hd]
end
end Go.Proofs.Ytljbdmmidajmdaa.Pg
