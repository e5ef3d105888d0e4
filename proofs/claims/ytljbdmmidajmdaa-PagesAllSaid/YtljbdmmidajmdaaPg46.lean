/- Books by blocks of pages, and the document's by numbers of pages, that are the same. -/
import Derived.Test.YtljbdmmidajmdaaPg45
namespace Go.Proofs.Ytljbdmmidajmdaa.Pg
open Go.RowKit

/-- The document's books are these books, its numbers one for each page. -/
structure Match (S : List SB) (R : List RB) (next : Nat) (f : Nat → Nat) : Prop where
  len : R.length = S.length
  inj : ∀ p q, p ∈ allPgs S → q ∈ allPgs S → f p = f q → p = q
  le : ∀ p, p ∈ allPgs S → f p ≤ next
  bk : ∀ (i : Nat) s x, S[i]? = some s → R[i]? = some x → x.cells = s.cells ∧ x.gone = s.gone ∧ x.pgs = s.pgs.map f

section
variable {S : List SB} {R : List RB} {next b k : Nat} {f : Nat → Nat} {s : SB} {x : RB}
theorem ids_eq {f : Nat → Nat} : ∀ {S : List SB} {R : List RB}, R.length = S.length → (∀ (i : Nat) s x, S[i]? = some s → R[i]? = some x → x.pgs = s.pgs.map f) → ids R = (allPgs S).map f
  | [], [], _, _ => rfl
  | s :: S, x :: R, h, hb => by
    have h1 := hb 0 s x rfl rfl
    have h2 := ids_eq (S := S) (R := R) (by simpa using h) (fun i s x hs hx => hb (i + 1) s x (by simpa using hs) (by simpa using hx))
    unfold ids allPgs at h2 ⊢
    rw [List.flatMap_cons, List.flatMap_cons, List.map_append, h1, h2]
  | [], _ :: _, h, _ => by simp at h
  | _ :: _, [], h, _ => by simp at h
theorem Match.ids (h : Match S R next f) : ids R = (allPgs S).map f := ids_eq h.len (fun i s x hs hx => (h.bk i s x hs hx).2.2)
theorem Match.live (h : Match S R next f) : distinct (Pg.ids R) = distinct (allPgs S) := by rw [h.ids, distinct_map h.inj]
theorem Match.shared (h : Match S R next f) (hs : S[b]? = some s) (hnd : s.pgs.Nodup) {p : Nat} (hp : p ∈ s.pgs) : sharedIn R b (f p) ↔ 1 < (allPgs S).count p := by
  have hpa : p ∈ allPgs S := mem_allPgs.2 ⟨s, List.mem_of_getElem? hs, hp⟩
  have hc1 : s.pgs.count p = 1 := by
    have h1 : s.pgs.count p ≤ 1 := List.nodup_iff_count.1 hnd p
    have h2 := mem_count.1 hp
    omega
  constructor
  · rintro ⟨i, y, hi, hy, hm⟩
    have hil : i < S.length := by rw [← h.len]; exact (List.getElem?_eq_some_iff.1 hy).1
    have hsi : S[i]? = some S[i] := List.getElem?_eq_getElem hil
    rw [(h.bk i _ y hsi hy).2.2] at hm
    obtain ⟨q, hq, e⟩ := List.mem_map.1 hm
    obtain rfl := h.inj q p (mem_allPgs.2 ⟨_, List.mem_of_getElem? hsi, hq⟩) hpa e
    have := count_two hs hsi hi q
    have := mem_count.1 hq
    omega
  · intro hc
    have h3 := count_set (p := p) ⟨[], [], false⟩ hs
    simp only [List.count_nil, Nat.add_zero, hc1] at h3
    have h4 : p ∈ allPgs (S.set b ⟨[], [], false⟩) := mem_count.2 (by omega)
    obtain ⟨t, ht, hpt⟩ := mem_allPgs.1 h4
    obtain ⟨i, hi⟩ := List.getElem?_of_mem ht
    rw [List.getElem?_set] at hi
    split at hi
    · simp at hi
      obtain ⟨_, rfl⟩ := hi
      simp at hpt
    · rename_i hne
      have hil : i < R.length := by rw [h.len]; exact (List.getElem?_eq_some_iff.1 hi).1
      refine ⟨i, R[i], fun e => hne e.symm, List.getElem?_eq_getElem hil, ?_⟩
      rw [(h.bk i t _ hi (List.getElem?_eq_getElem hil)).2.2]
      exact List.mem_map_of_mem hpt

/-- One page more has a number of its own. -/
def numbered (f : Nat → Nat) (q m : Nat) : Nat → Nat := fun z => if z = q then m else f z
theorem numbered_new (f : Nat → Nat) (q m : Nat) : numbered f q m q = m := by simp [numbered]
theorem numbered_old (f : Nat → Nat) {q m p : Nat} (h : p ≠ q) : numbered f q m p = f p := by simp [numbered, h]
theorem map_numbered {f : Nat → Nat} {q m : Nat} {l : List Nat} (h : q ∉ l) : l.map (numbered f q m) = l.map f :=
  List.map_congr_left (fun _ hp => numbered_old f (fun e => h (e ▸ hp)))
theorem Match.same (h : Match S R next f) (hs : S[b]? = some s) (hx : R[b]? = some x) (c : List CD) (g : Bool) : Match (S.set b ⟨c, s.pgs, g⟩) (R.set b ⟨c, x.pgs, g⟩) next f := by
  have hm : ∀ p, p ∈ allPgs (S.set b ⟨c, s.pgs, g⟩) → p ∈ allPgs S := fun p hp => by
    obtain ⟨t, ht, hpt⟩ := mem_allPgs.1 hp
    rcases (mem_set_iff ⟨c, s.pgs, g⟩ hs (fun t => p ∈ t.pgs)).1 ⟨t, ht, hpt⟩ with q | ⟨j, y, _, hy, q⟩
    · exact mem_allPgs.2 ⟨s, List.mem_of_getElem? hs, q⟩
    · exact mem_allPgs.2 ⟨y, List.mem_of_getElem? hy, q⟩
  refine ⟨by rw [List.length_set, List.length_set]; exact h.len, fun p q hp hq => h.inj p q (hm p hp) (hm q hq), fun p hp => h.le p (hm p hp), fun i t y ht hy => ?_⟩
  rw [List.getElem?_set] at ht hy
  split at ht
  · rename_i e
    subst e
    simp at ht hy
    obtain ⟨_, rfl⟩ := ht
    obtain ⟨_, rfl⟩ := hy
    exact ⟨rfl, rfl, (h.bk b s x hs hx).2.2⟩
  · rename_i e
    rw [if_neg e] at hy
    exact h.bk i t y ht hy
theorem Match.fresh (h : Match S R next f) (hs : S[b]? = some s) {q : Nat} (hq : q ∉ allPgs S) {ps : List Nat} (hsub : ∀ p ∈ ps, p = q ∨ p ∈ s.pgs) (c : List CD) (g : Bool) :
    Match (S.set b ⟨c, ps, g⟩) (R.set b ⟨c, ps.map (numbered f q (next + 1)), g⟩) (next + 1) (numbered f q (next + 1)) := by
  have hm : ∀ p, p ∈ allPgs (S.set b ⟨c, ps, g⟩) → p = q ∨ p ∈ allPgs S := fun p hp => by
    obtain ⟨t, ht, hpt⟩ := mem_allPgs.1 hp
    rcases (mem_set_iff ⟨c, ps, g⟩ hs (fun t => p ∈ t.pgs)).1 ⟨t, ht, hpt⟩ with r | ⟨j, y, _, hy, r⟩
    · exact (hsub p r).imp id (fun r => mem_allPgs.2 ⟨s, List.mem_of_getElem? hs, r⟩)
    · exact .inr (mem_allPgs.2 ⟨y, List.mem_of_getElem? hy, r⟩)
  have hold : ∀ p, p ∈ allPgs S → numbered f q (next + 1) p = f p := fun p hp => numbered_old f (fun e => hq (e ▸ hp))
  refine ⟨by rw [List.length_set, List.length_set]; exact h.len, fun p r hp hr e => ?_, fun p hp => ?_, fun i t y ht hy => ?_⟩
  · rcases hm p hp with rfl | hp' <;> rcases hm r hr with rfl | hr'
    · rfl
    · rw [numbered_new, hold r hr'] at e
      have := h.le r hr'
      omega
    · rw [numbered_new, hold p hp'] at e
      have := h.le p hp'
      omega
    · rw [hold p hp', hold r hr'] at e
      exact h.inj p r hp' hr' e
  · rcases hm p hp with rfl | hp'
    · rw [numbered_new]; exact Nat.le_refl _
    · rw [hold p hp']; have := h.le p hp'; omega
  · rw [List.getElem?_set] at ht hy
    split at ht
    · rename_i e
      subst e
      simp at ht hy
      obtain ⟨_, rfl⟩ := ht
      obtain ⟨_, rfl⟩ := hy
      exact ⟨rfl, rfl, rfl⟩
    · rename_i e
      rw [if_neg e] at hy
      obtain ⟨h1, h2, h3⟩ := h.bk i t y ht hy
      refine ⟨h1, h2, h3.trans (map_numbered (fun hm => hq (mem_allPgs.2 ⟨t, List.mem_of_getElem? ht, hm⟩))).symm⟩
/-- Both come to a page of their own in the same way. -/
theorem Match.own (h : Match S R next f) (hs : S[b]? = some s) (hx : R[b]? = some x) (hnd : s.pgs.Nodup) {ps : List Nat} (ho : OwnRel S s k ps) {ps' : List Nat} {next' : Nat} (hr : OwnRB R b x k next ps' next') (c : List CD) (g : Bool) :
    ∃ f', Match (S.set b ⟨c, ps, g⟩) (R.set b ⟨c, ps', g⟩) next' f' := by
  have hxp := (h.bk b s x hs hx).2.2
  have hat : ∀ {n}, x.pgs[k]? = some n → ∃ p, s.pgs[k]? = some p ∧ n = f p := fun {n} hn => by
    rw [hxp, List.getElem?_map] at hn
    cases hk : s.pgs[k]? with
    | none => rw [hk] at hn; cases hn
    | some p => rw [hk] at hn; exact ⟨p, rfl, (Option.some.inj hn).symm⟩
  have hlen : x.pgs.length = s.pgs.length := by rw [hxp, List.length_map]
  cases hr with
  | keep hp hsh =>
    obtain ⟨p, hp', rfl⟩ := hat hp
    have hsh' := mt (h.shared hs hnd (List.mem_of_getElem? hp')).2 hsh
    cases ho with
    | keep _ _ => exact ⟨f, h.same hs hx c g⟩
    | copy hq hc _ => obtain rfl := Option.some.inj (hp'.symm.trans hq); exact absurd hc hsh'
    | new hk _ => have := (List.getElem?_eq_some_iff.1 hp').1; omega
  | copy hp hsh =>
    obtain ⟨p, hp', rfl⟩ := hat hp
    have hsh' := (h.shared hs hnd (List.mem_of_getElem? hp')).1 hsh
    cases ho with
    | keep hq hc => obtain rfl := Option.some.inj (hp'.symm.trans hq); omega
    | @copy p0 q hp0 hc hq =>
      refine ⟨numbered f q (next + 1), ?_⟩
      have := h.fresh hs hq (ps := s.pgs.set k q) (fun r hr => (List.mem_or_eq_of_mem_set hr).symm) c g
      rwa [List.map_set, numbered_new, map_numbered (fun hm => hq (mem_allPgs.2 ⟨s, List.mem_of_getElem? hs, hm⟩)), ← hxp] at this
    | new hk _ => have := (List.getElem?_eq_some_iff.1 hp').1; omega
  | new hp =>
    cases ho with
    | keep hq _ => have := (List.getElem?_eq_some_iff.1 hq).1; omega
    | copy hq _ _ => have := (List.getElem?_eq_some_iff.1 hq).1; omega
    | @new q hk hq =>
      refine ⟨numbered f q (next + 1), ?_⟩
      have := h.fresh hs hq (ps := s.pgs ++ [q]) (fun r hr => (List.mem_append.1 hr).symm.imp (fun e => List.mem_singleton.1 e) id) c g
      rwa [List.map_append, List.map_cons, List.map_nil, numbered_new, map_numbered (fun hm => hq (mem_allPgs.2 ⟨s, List.mem_of_getElem? hs, hm⟩)), ← hxp] at this
theorem Match.drop (h : Match S R next f) (hs : S[b]? = some s) : Match (S.set b ⟨[], [], true⟩) (R.set b ⟨[], [], true⟩) next f := by
  have hm : ∀ p, p ∈ allPgs (S.set b ⟨[], [], true⟩) → p ∈ allPgs S := fun p hp => by
    obtain ⟨t, ht, hpt⟩ := mem_allPgs.1 hp
    rcases (mem_set_iff ⟨[], [], true⟩ hs (fun t => p ∈ t.pgs)).1 ⟨t, ht, hpt⟩ with q | ⟨j, y, _, hy, q⟩
    · simp at q
    · exact mem_allPgs.2 ⟨y, List.mem_of_getElem? hy, q⟩
  refine ⟨by rw [List.length_set, List.length_set]; exact h.len, fun p q hp hq => h.inj p q (hm p hp) (hm q hq), fun p hp => h.le p (hm p hp), fun i t y ht hy => ?_⟩
  rw [List.getElem?_set] at ht hy
  split at ht
  · rename_i e
    subst e
    simp at ht hy
    obtain ⟨_, rfl⟩ := ht
    obtain ⟨_, rfl⟩ := hy
    exact ⟨rfl, rfl, rfl⟩
  · rename_i e
    rw [if_neg e] at hy
    exact h.bk i t y ht hy
theorem Match.mark (h : Match S R next f) (hs : S[b]? = some s) (hx : R[b]? = some x) : Match (S ++ [s]) (R ++ [x]) next f := by
  have hm : ∀ p, p ∈ allPgs (S ++ [s]) → p ∈ allPgs S := fun p hp => by
    rw [allPgs_append] at hp
    rcases List.mem_append.1 hp with q | q
    · exact q
    · simp [allPgs] at q
      exact mem_allPgs.2 ⟨s, List.mem_of_getElem? hs, q⟩
  refine ⟨by rw [List.length_append, List.length_append, h.len]; rfl, fun p q hp hq => h.inj p q (hm p hp) (hm q hq), fun p hp => h.le p (hm p hp), fun i t y ht hy => ?_⟩
  rcases Nat.lt_or_ge i S.length with hi | hi
  · rw [List.getElem?_append_left hi] at ht
    rw [List.getElem?_append_left (by rw [h.len]; exact hi)] at hy
    exact h.bk i t y ht hy
  · rw [List.getElem?_append_right hi] at ht
    rw [List.getElem?_append_right (by rw [h.len]; exact hi), h.len] at hy
    have h0 := (List.getElem?_eq_some_iff.1 ht).1
    simp at h0
    rw [show i - S.length = 0 by omega] at ht hy
    simp at ht hy
    subst ht hy
    exact h.bk b s x hs hx
theorem Match.start : Match [⟨[], [], false⟩] [⟨[], [], false⟩] 0 id :=
  ⟨rfl, fun p q hp => by simp [allPgs] at hp, fun p hp => by simp [allPgs] at hp, fun i t y ht hy => by
    have hi := (List.getElem?_eq_some_iff.1 ht).1
    simp at hi
    subst hi
    simp at ht hy
    subst ht hy
    exact ⟨rfl, rfl, rfl⟩⟩
end
end Go.Proofs.Ytljbdmmidajmdaa.Pg
