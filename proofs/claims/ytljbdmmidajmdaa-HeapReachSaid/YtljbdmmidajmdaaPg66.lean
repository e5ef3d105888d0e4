/- What the document's Reach finds, plainly. -/
import Derived.Test.YtljbdmmidajmdaaPg65
namespace Go.Proofs.Ytljbdmmidajmdaa.Pg
open Go.RowKit Go.Maps

/-- A value that leads to an address of n. -/
def aims (n : Nat) (v : VD) : Prop := (v.kind = 5 ∨ v.kind = 6) ∧ 1 ≤ v.n ∧ v.n ≤ n
theorem aims_lead {n : Nat} {v : VD} {x : Int} : (aims n v ∧ v.n = x) ↔ (leadD v = some x ∧ 1 ≤ x ∧ x ≤ n) := by
  unfold aims leadD
  constructor
  · rintro ⟨⟨h, h1, h2⟩, rfl⟩
    refine ⟨?_, h1, h2⟩
    rw [if_pos]
    exact h.imp id (fun h => ⟨h, by omega⟩)
  · rintro ⟨h, h1, h2⟩
    split at h
    · rename_i hk
      obtain rfl := Option.some.inj h
      exact ⟨⟨hk.imp id (fun h => h.1), h1, h2⟩, rfl⟩
    · cases h
theorem succs_leadVs {c : CD} {x : Int} (h1 : 1 ≤ x) : x ∈ succs c ↔ ∃ v ∈ leadVs c, leadD v = some x := by
  unfold succs leadVs beyondD
  simp only [List.mem_cons, List.mem_filterMap, List.mem_append]
  constructor
  · rintro (h | ⟨v, hv, h⟩)
    · split at h
      · rename_i hk
        exact ⟨⟨5, c.a, ByteArray.empty⟩, .inr (.inl (by simp [hk])), by simp [leadD, h]⟩
      · split at h
        · rename_i hk
          exact ⟨⟨5, c.b, ByteArray.empty⟩, .inr (.inr (by simp [hk])), by simp [leadD, h]⟩
        · omega
    · exact ⟨v, .inl hv, h⟩
  · rintro ⟨v, hv | hv | hv, h⟩
    · exact .inr ⟨v, hv, h⟩
    · split at hv
      · rename_i hk
        simp at hv
        subst hv
        simp [leadD] at h
        exact .inl (by rw [if_pos hk]; exact h.symm)
      · simp at hv
    · split at hv
      · rename_i hk
        simp at hv
        subst hv
        simp [leadD] at h
        exact .inl (by rw [if_neg (by omega), if_pos hk]; exact h.symm)
      · simp at hv
/-- How far the document's search is: which are marked, what is to be looked at, how much of it was. -/
structure Marked (l : List CD) (roots : List VD) (S : List Int) (T : List VD) (i : Nat) : Prop where
  nd : S.Nodup
  sub : ∀ x ∈ S, Reached l roots x
  from_ : ∀ v ∈ T, v ∈ roots ∨ ∃ y ∈ S, ∃ c, l[(y - 1).toNat]? = some c ∧ v ∈ leadVs c
  roots : ∀ v ∈ roots, v ∈ T
  leads : ∀ y ∈ S, ∀ c, l[(y - 1).toNat]? = some c → ∀ v ∈ leadVs c, v ∈ T
  done : ∀ j v, j < i → T[j]? = some v → aims l.length v → v.n ∈ S
section
variable {l : List CD} {roots T : List VD} {S : List Int} {i : Nat} {v : VD} {c : CD}
theorem Marked.start : Marked l roots [] roots 0 := ⟨List.nodup_nil, fun x hx => by simp at hx, fun v hv => .inl hv, fun v hv => hv, fun y hy => by simp at hy, fun j v hj => absurd hj (by omega)⟩
theorem Marked.skip (h : Marked l roots S T i) (hv : T[i]? = some v) (hs : aims l.length v → v.n ∈ S) : Marked l roots S T (i + 1) :=
  ⟨h.nd, h.sub, h.from_, h.roots, h.leads, fun j u hj hu ha => by
    rcases Nat.lt_or_ge j i with q | q
    · exact h.done j u q hu ha
    · obtain rfl : j = i := by omega
      obtain rfl := Option.some.inj (hv.symm.trans hu)
      exact hs ha⟩
theorem Marked.mark (h : Marked l roots S T i) (hv : T[i]? = some v) (ha : aims l.length v) (hn : v.n ∉ S) (hc : l[(v.n - 1).toNat]? = some c) : Marked l roots (S ++ [v.n]) (T ++ leadVs c) (i + 1) := by
  have hr : Reached l roots v.n := by
    obtain ⟨h1, h2, h3⟩ := aims_lead.1 ⟨ha, rfl⟩
    rcases h.from_ v (List.mem_of_getElem? hv) with hm | ⟨y, hy, d, hd, hm⟩
    · exact .root hm h1 h2 h3
    · exact .step (h.sub y hy) hd ((succs_leadVs h2).2 ⟨v, hm, h1⟩) h2 h3
  have hlt := (List.getElem?_eq_some_iff.1 hv).1
  refine ⟨List.nodup_append.2 ⟨h.nd, by simp, fun a ha' b hb e => by simp at hb; subst hb; exact hn (e ▸ ha')⟩, fun x hx => ?_, fun u hu => ?_, fun u hu => List.mem_append.2 (.inl (h.roots u hu)), fun y hy d hd u hu => ?_, fun j u hj hu ha' => ?_⟩
  · rcases List.mem_append.1 hx with hx | hx
    · exact h.sub x hx
    · simp at hx; subst hx; exact hr
  · rcases List.mem_append.1 hu with hu | hu
    · exact (h.from_ u hu).imp id (fun ⟨y, hy, d, hd, hm⟩ => ⟨y, List.mem_append.2 (.inl hy), d, hd, hm⟩)
    · exact .inr ⟨v.n, by simp, c, hc, hu⟩
  · rcases List.mem_append.1 hy with hy | hy
    · exact List.mem_append.2 (.inl (h.leads y hy d hd u hu))
    · simp at hy
      subst hy
      obtain rfl := Option.some.inj (hc.symm.trans hd)
      exact List.mem_append.2 (.inr hu)
  · rcases Nat.lt_or_ge j i with q | q
    · rw [List.getElem?_append_left (by omega)] at hu
      exact List.mem_append.2 (.inl (h.done j u q hu ha'))
    · obtain rfl : j = i := by omega
      rw [List.getElem?_append_left hlt] at hu
      obtain rfl := Option.some.inj (hv.symm.trans hu)
      simp
theorem Marked.all (h : Marked l roots S T T.length) (x : Int) : x ∈ S ↔ Reached l roots x := by
  have hin : ∀ v ∈ T, aims l.length v → v.n ∈ S := fun v hv ha => by
    obtain ⟨j, hj⟩ := List.getElem?_of_mem hv
    exact h.done j v (List.getElem?_eq_some_iff.1 hj).1 hj ha
  refine ⟨h.sub x, fun hx => ?_⟩
  induction hx with
  | @root v x hv hx h1 h2 =>
    obtain ⟨ha, rfl⟩ := aims_lead.2 ⟨hx, h1, h2⟩
    exact hin v (h.roots v hv) ha
  | @step y x c hy hc hx h1 h2 ih =>
    obtain ⟨v, hv, hl⟩ := (succs_leadVs h1).1 hx
    obtain ⟨ha, rfl⟩ := aims_lead.2 ⟨hl, h1, h2⟩
    exact hin v (h.leads y ih c hc v hv) ha
theorem Marked.length (h : Marked l roots S T i) : S.length ≤ l.length := length_le_of h.nd (fun x hx => (h.sub x hx).bounds)
end
theorem leadVs_length {c : CD} {m : Nat} (h : c.vals.length ≤ m) : (leadVs c).length ≤ m + 1 := by
  unfold leadVs
  rw [List.length_append, List.length_append]
  by_cases h1 : c.kind = 1 ∨ c.kind = 4
  · rw [if_pos h1, if_neg (by omega)]; simp; omega
  · rw [if_neg h1]
    split <;> simp <;> omega
end Go.Proofs.Ytljbdmmidajmdaa.Pg
