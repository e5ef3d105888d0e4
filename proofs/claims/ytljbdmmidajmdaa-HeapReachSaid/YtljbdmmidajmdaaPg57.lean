/- What roots lead to: heap.Reach, up to the sorting of what it found. -/
import Derived.Test.YtljbdmmidajmdaaPg56
import Derived.Deep.RegionHeld3
namespace Go.Proofs.Ytljbdmmidajmdaa.Pg
open Go.RowKit Go.Maps
attribute [local go_sem ↓] Go.wp_at_zero Go.wp_at_succ

/-- Where a cell leads. -/
def succs (c : CD) : List Int := beyondD c :: c.vals.filterMap leadD
/-- The addresses that roots lead to. -/
inductive Reached (l : List CD) (roots : List VD) : Int → Prop
  | root {v : VD} {x : Int} (hv : v ∈ roots) (hx : leadD v = some x) (h1 : 1 ≤ x) (h2 : x ≤ l.length) : Reached l roots x
  | step {y x : Int} {c : CD} (hy : Reached l roots y) (hc : l[(y - 1).toNat]? = some c) (hx : x ∈ succs c) (h1 : 1 ≤ x) (h2 : x ≤ l.length) : Reached l roots x
theorem Reached.bounds {l : List CD} {roots : List VD} {x : Int} (h : Reached l roots x) : 1 ≤ x ∧ x ≤ l.length := by cases h <;> exact ⟨by assumption, by assumption⟩

section
variable {n : Nat} {L : List Int} {x y : Int}
theorem mem_addIn : x ∈ addIn n L y ↔ x ∈ L ∨ (x = y ∧ 1 ≤ y ∧ y ≤ n) := by
  unfold addIn addL
  split
  · rename_i h
    split
    · rename_i h'
      constructor
      · exact .inl
      · rintro (h1 | ⟨rfl, _⟩)
        · exact h1
        · exact h'
    · simp [h]
  · rename_i h
    constructor
    · exact .inl
    · rintro (h1 | ⟨_, h2⟩)
      · exact h1
      · exact absurd h2 h
theorem nodup_addIn (h : L.Nodup) : (addIn n L y).Nodup := by
  unfold addIn addL
  split
  · split
    · exact h
    · rename_i h'
      exact List.nodup_append.2 ⟨h, by simp, fun a ha b hb e => by simp at hb; subst hb; exact h' (e ▸ ha)⟩
  · exact h
/-- All that some values lead to is added. -/
def addVs (n : Nat) (L : List Int) (vs : List VD) : List Int := vs.foldl (addV n) L
theorem addVs_take {vs : List VD} {k : Nat} {v : VD} (h : vs[k]? = some v) : addVs n L (vs.take (k + 1)) = addV n (addVs n L (vs.take k)) v := by
  unfold addVs
  rw [List.take_add_one, h, List.foldl_append]
  rfl
theorem mem_addV {v : VD} : x ∈ addV n L v ↔ x ∈ L ∨ (leadD v = some x ∧ 1 ≤ x ∧ x ≤ n) := by
  unfold addV
  cases h : leadD v with
  | none => simp
  | some z =>
    show x ∈ addIn n L z ↔ _
    rw [mem_addIn]
    constructor
    · rintro (h1 | ⟨rfl, h2⟩)
      · exact .inl h1
      · exact .inr ⟨rfl, h2⟩
    · rintro (h1 | ⟨h1, h2⟩)
      · exact .inl h1
      · obtain rfl := Option.some.inj h1
        exact .inr ⟨rfl, h2⟩
theorem nodup_addV {v : VD} (h : L.Nodup) : (addV n L v).Nodup := by
  unfold addV
  split
  · exact nodup_addIn h
  · exact h
theorem mem_addVs : ∀ {vs : List VD} {L : List Int}, x ∈ addVs n L vs ↔ x ∈ L ∨ ((∃ v ∈ vs, leadD v = some x) ∧ 1 ≤ x ∧ x ≤ n)
  | [], L => by simp [addVs]
  | v :: vs, L => by
    show x ∈ addVs n (addV n L v) vs ↔ _
    rw [mem_addVs, mem_addV]
    constructor
    · rintro ((h | ⟨h, h'⟩) | ⟨⟨u, hu, h⟩, h'⟩)
      · exact .inl h
      · exact .inr ⟨⟨v, by simp, h⟩, h'⟩
      · exact .inr ⟨⟨u, by simp [hu], h⟩, h'⟩
    · rintro (h | ⟨⟨u, hu, h⟩, h'⟩)
      · exact .inl (.inl h)
      · rcases List.mem_cons.1 hu with rfl | hu
        · exact .inl (.inr ⟨h, h'⟩)
        · exact .inr ⟨⟨u, hu, h⟩, h'⟩
theorem nodup_addVs : ∀ {vs : List VD} {L : List Int}, L.Nodup → (addVs n L vs).Nodup
  | [], _, h => h
  | v :: _, _, h => nodup_addVs (L := addV n _ v) (nodup_addV h)
theorem length_le_of {L : List Int} (hnd : L.Nodup) (h : ∀ x ∈ L, 1 ≤ x ∧ x ≤ (n : Int)) : L.length ≤ n := by
  have hlt : ∀ p ∈ L.map (fun x => (x - 1).toNat), p < n := fun p hp => by
    obtain ⟨x, hx, rfl⟩ := List.mem_map.1 hp
    have := h x hx
    omega
  have hnd' : (L.map (fun x => (x - 1).toNat)).Nodup := by
    refine List.pairwise_map.2 (hnd.imp_of_mem fun {a b} ha hb hne e => hne ?_)
    have := h a ha
    have := h b hb
    omega
  have h1 := distinct_nodup hnd'
  rw [distinct_range hlt, List.length_map] at h1
  rw [← h1]
  exact Nat.le_trans List.countP_le_length (by simp)
end

/-- How far the search is: what was found up to k has been gone through. -/
structure Found (l : List CD) (roots : List VD) (L : List Int) (k : Nat) : Prop where
  nd : L.Nodup
  sub : ∀ x ∈ L, Reached l roots x
  roots : ∀ v ∈ roots, ∀ x, leadD v = some x → 1 ≤ x → x ≤ l.length → x ∈ L
  done : ∀ j y c, j < k → L[j]? = some y → l[(y - 1).toNat]? = some c → ∀ x ∈ succs c, 1 ≤ x → x ≤ l.length → x ∈ L
section
variable {l : List CD} {roots : List VD} {L : List Int} {k : Nat} {y : Int} {c : CD}
theorem Found.start : Found l roots (addVs l.length [] roots) 0 :=
  ⟨nodup_addVs List.nodup_nil, fun x hx => by
    rcases mem_addVs.1 hx with h | ⟨⟨v, hv, h⟩, h1, h2⟩
    · simp at h
    · exact .root hv h h1 h2, fun v hv x hx h1 h2 => mem_addVs.2 (.inr ⟨⟨v, hv, hx⟩, h1, h2⟩), fun j y c hj => absurd hj (by omega)⟩
theorem Found.next (h : Found l roots L k) (hy : L[k]? = some y) (hc : l[(y - 1).toNat]? = some c) : Found l roots (addVs l.length (addIn l.length L (beyondD c)) c.vals) (k + 1) := by
  have hyr := h.sub y (List.mem_of_getElem? hy)
  have hmem : ∀ x, x ∈ addVs l.length (addIn l.length L (beyondD c)) c.vals ↔ x ∈ L ∨ (x ∈ succs c ∧ 1 ≤ x ∧ x ≤ l.length) := fun x => by
    rw [mem_addVs, mem_addIn]
    unfold succs
    rw [List.mem_cons, List.mem_filterMap]
    constructor
    · rintro ((h | ⟨rfl, h⟩) | ⟨⟨v, hv, hx⟩, h⟩)
      · exact .inl h
      · exact .inr ⟨.inl rfl, h⟩
      · exact .inr ⟨.inr ⟨v, hv, hx⟩, h⟩
    · rintro (h | ⟨rfl | ⟨v, hv, hx⟩, h⟩)
      · exact .inl (.inl h)
      · exact .inl (.inr ⟨rfl, h⟩)
      · exact .inr ⟨⟨v, hv, hx⟩, h⟩
  have hpre : ∀ j, j < L.length → (addVs l.length (addIn l.length L (beyondD c)) c.vals)[j]? = L[j]? := fun j hj => by
    have grow : ∀ (vs : List VD) (M : List Int), ∃ N, addVs l.length M vs = M ++ N := by
      intro vs
      induction vs with
      | nil => exact fun M => ⟨[], by simp [addVs]⟩
      | cons v vs ih =>
        intro M
        obtain ⟨N, hN⟩ := ih (addV l.length M v)
        have : ∃ N', addV l.length M v = M ++ N' := by
          unfold addV addIn addL
          split
          · split
            · split
              · exact ⟨[], by simp⟩
              · exact ⟨_, rfl⟩
            · exact ⟨[], by simp⟩
          · exact ⟨[], by simp⟩
        obtain ⟨N', hN'⟩ := this
        exact ⟨N' ++ N, by rw [← List.append_assoc, ← hN', ← hN]; rfl⟩
    have h1 : ∃ N, addIn l.length L (beyondD c) = L ++ N := by
      unfold addIn addL
      split
      · split
        · exact ⟨[], by simp⟩
        · exact ⟨_, rfl⟩
      · exact ⟨[], by simp⟩
    obtain ⟨N, hN⟩ := h1
    obtain ⟨N', hN'⟩ := grow c.vals (addIn l.length L (beyondD c))
    rw [hN', hN, List.append_assoc, List.getElem?_append_left hj]
  refine ⟨nodup_addVs (nodup_addIn h.nd), fun x hx => ?_, fun v hv x hx h1 h2 => (hmem x).2 (.inl (h.roots v hv x hx h1 h2)), fun j z d hj hz hd x hx h1 h2 => ?_⟩
  · rcases (hmem x).1 hx with h' | ⟨h', h1, h2⟩
    · exact h.sub x h'
    · exact .step hyr hc h' h1 h2
  · have hkl := (List.getElem?_eq_some_iff.1 hy).1
    rw [hpre j (by omega)] at hz
    rcases Nat.lt_or_ge j k with hjk | hjk
    · exact (hmem x).2 (.inl (h.done j z d hjk hz hd x hx h1 h2))
    · obtain rfl : j = k := by omega
      obtain rfl := Option.some.inj (hy.symm.trans hz)
      obtain rfl := Option.some.inj (hc.symm.trans hd)
      exact (hmem x).2 (.inr ⟨hx, h1, h2⟩)
theorem Found.bounds (h : Found l roots L k) : ∀ x ∈ L, 1 ≤ x ∧ x ≤ (l.length : Int) := fun x hx => (h.sub x hx).bounds
theorem Found.length (h : Found l roots L k) : L.length ≤ l.length := length_le_of h.nd h.bounds
theorem Found.grown {M : List Int} {k' : Nat} (h : Found l roots M k') (h0 : Found l roots L k) (hs : ∀ x ∈ L, x ∈ M) : L.length ≤ M.length := by
  have h1 := distinct_nodup (l := L.map Int.toNat) (List.pairwise_map.2 (h0.nd.imp_of_mem fun {a b} ha hb hne e => hne (by have := h0.bounds a ha; have := h0.bounds b hb; omega)))
  have h2 := distinct_nodup (l := M.map Int.toNat) (List.pairwise_map.2 (h.nd.imp_of_mem fun {a b} ha hb hne e => hne (by have := h.bounds a ha; have := h.bounds b hb; omega)))
  rw [List.length_map] at h1 h2
  have hb1 : ∀ p ∈ L.map Int.toNat, p < l.length + 1 := fun p hp => by obtain ⟨x, hx, rfl⟩ := List.mem_map.1 hp; have := h0.bounds x hx; omega
  have hb2 : ∀ p ∈ M.map Int.toNat, p < l.length + 1 := fun p hp => by obtain ⟨x, hx, rfl⟩ := List.mem_map.1 hp; have := h.bounds x hx; omega
  rw [distinct_range hb1] at h1
  rw [distinct_range hb2] at h2
  rw [← h1, ← h2]
  refine List.countP_mono_left (fun x _ hx => ?_)
  simp only [decide_eq_true_eq] at hx ⊢
  obtain ⟨y, hy, rfl⟩ := List.mem_map.1 hx
  exact List.mem_map_of_mem (hs y hy)
/-- At the end all that is reached was found. -/
theorem Found.all (h : Found l roots L L.length) (x : Int) : x ∈ L ↔ Reached l roots x := by
  refine ⟨h.sub x, fun hx => ?_⟩
  induction hx with
  | root hv hx h1 h2 => exact h.roots _ hv _ hx h1 h2
  | step hy hc hx h1 h2 ih =>
    obtain ⟨j, hj⟩ := List.getElem?_of_mem ih
    exact h.done j _ _ (List.getElem?_eq_some_iff.1 hj).1 hj hc _ hx h1 h2
end
end Go.Proofs.Ytljbdmmidajmdaa.Pg
