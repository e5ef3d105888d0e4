/- A family of books as lists of cells. -/
import Derived.Test.YtdgpblhmfkpblaaPg16
namespace Go.Proofs.Ytdgpblhmfkpblaa.Pg
open Go.RowKit

/-- What holds of each book. -/
structure SB.Wf (s : SB) : Prop where
  len : s.pgs.length = (s.cells.length + 7) / 8
  n : s.cells.length ≤ 4096
  nd : s.pgs.Nodup
  gone : s.gone = true → s.cells = []
  small : ∀ c ∈ s.cells, c.small

/-- A family's books are these, in this order. -/
structure Books (D : FD) (bs : List Nat) (S : List SB) : Prop where
  len : bs.length = S.length
  nd : bs.Nodup
  bk : ∀ (i b : Nat) (s : SB), bs[i]? = some b → S[i]? = some s → ∃ K, D.bk b = some K ∧ K.pgs = s.pgs ∧ K.n = s.cells.length ∧ K.gone = s.gone
  wf : ∀ s ∈ S, s.Wf
  pg : ∀ s ∈ S, ∀ k p, s.pgs[k]? = some p → ∃ P, D.pg p = some P ∧ P.cells = (s.cells.drop (8 * k)).take 8
  sh : ∀ p P, D.pg p = some P → P.sh = ((allPgs S).count p : Nat)
  live : D.live = (distinct (allPgs S) : Nat)

theorem SB.Wf.le {s : SB} (h : s.Wf) : s.pgs.length ≤ 512 := by have := h.len; have := h.n; omega
theorem Books.small {D : FD} {bs : List Nat} {S : List SB} (h : Books D bs S) (hS : S.length ≤ 1000) : (allPgs S).length ≤ 512000 := by
  have := allPgs_length (S := S) (n := 512) (fun s hs => (h.wf s hs).le)
  omega

theorem nodup_idx {l : List Nat} (h : l.Nodup) {i j a : Nat} (hi : l[i]? = some a) (hj : l[j]? = some a) : i = j := by
  obtain ⟨h1, e1⟩ := List.getElem?_eq_some_iff.1 hi
  obtain ⟨h2, e2⟩ := List.getElem?_eq_some_iff.1 hj
  exact (List.getElem_inj h).1 (e1.trans e2.symm)

/-- One of the books turns. -/
theorem Books.update {D : FD} {bs : List Nat} {S : List SB} (h : Books D bs S) {i b : Nat} {s : SB} (hb : bs[i]? = some b) (hs : S[i]? = some s) {D' : FD} {s' : SB} {K' : BkD}
    (hbk : D'.bk b = some K') (hbo : ∀ x, x ≠ b → D'.bk x = D.bk x) (hK : K'.pgs = s'.pgs ∧ K'.n = s'.cells.length ∧ K'.gone = s'.gone) (hwf : s'.Wf)
    (hpg : ∀ k p, s'.pgs[k]? = some p → ∃ P, D'.pg p = some P ∧ P.cells = (s'.cells.drop (8 * k)).take 8)
    (ho : ∀ j x p P, j ≠ i → S[j]? = some x → p ∈ x.pgs → D.pg p = some P → ∃ P', D'.pg p = some P' ∧ P'.cells = P.cells)
    (hsh : ∀ p P, D'.pg p = some P → P.sh + (s.pgs.count p : Nat) = ((allPgs S).count p : Nat) + (s'.pgs.count p : Nat))
    (hl : D'.live = (distinct (allPgs (S.set i s')) : Nat)) : Books D' bs (S.set i s') := by
  have hi := (List.getElem?_eq_some_iff.1 hs).1
  have hall : ∀ (Q : SB → Prop), Q s' → (∀ j x, j ≠ i → S[j]? = some x → Q x) → ∀ x ∈ S.set i s', Q x := by
    intro Q h1 h2 x hx
    obtain ⟨j, hj⟩ := List.getElem?_of_mem hx
    rw [List.getElem?_set] at hj
    split at hj
    · simp at hj; subst hj; exact h1
    · rename_i e; exact h2 j x (fun e' => e e'.symm) hj
  refine ⟨by rw [List.length_set]; exact h.len, h.nd, ?_, hall _ hwf (fun j x _ hx => h.wf x (List.mem_of_getElem? hx)), hall _ hpg ?_, ?_, hl⟩
  · intro j b' x hb' hx
    rw [List.getElem?_set] at hx
    split at hx
    · rename_i e; subst e
      simp at hx; subst hx
      have : b' = b := Option.some.inj (hb'.symm.trans hb)
      subst this
      exact ⟨K', hbk, hK⟩
    · rename_i e
      have hne : b' ≠ b := fun e' => e (nodup_idx h.nd hb (e' ▸ hb'))
      rw [hbo b' hne]
      exact h.bk j b' x hb' hx
  · intro j x hj hx k p hp
    obtain ⟨P, hP, hc⟩ := h.pg x (List.mem_of_getElem? hx) k p hp
    obtain ⟨P', hP', hc'⟩ := ho j x p P hj hx (List.mem_of_getElem? hp) hP
    exact ⟨P', hP', hc'.trans hc⟩
  · intro p P hP
    have h1 := hsh p P hP
    have h2 := count_set (p := p) s' hs
    omega

theorem mem_count {l : List Nat} {p : Nat} : p ∈ l ↔ 0 < l.count p := List.count_pos_iff.symm
theorem count_le {S : List SB} {i : Nat} {s : SB} (hs : S[i]? = some s) (p : Nat) : s.pgs.count p ≤ (allPgs S).count p := by
  have := count_set (p := p) ⟨[], [], false⟩ hs
  simp at this
  omega
theorem count_two {S : List SB} {i j : Nat} {s x : SB} (hs : S[i]? = some s) (hx : S[j]? = some x) (hne : j ≠ i) (p : Nat) : s.pgs.count p + x.pgs.count p ≤ (allPgs S).count p := by
  have h1 := count_set (p := p) ⟨[], [], false⟩ hs
  have h2 := count_le (S := S.set i ⟨[], [], false⟩) (i := j) (s := x) (by rw [List.getElem?_set]; simp [Ne.symm hne, hx]) p
  simp at h1
  omega
theorem count_set_nat {p q : Nat} (x : Nat) : ∀ {l : List Nat} {k : Nat}, l[k]? = some p → (l.set k q).count x + (if p = x then 1 else 0) = l.count x + (if q = x then 1 else 0)
  | y :: l, 0, h => by
    simp at h; subst h
    simp only [List.set_cons_zero, List.count_cons, beq_iff_eq]
    omega
  | y :: l, k + 1, h => by
    have := count_set_nat (p := p) (q := q) x (l := l) (k := k) (by simpa using h)
    simp only [List.set_cons_succ, List.count_cons]
    omega
theorem nodup_set {q : Nat} : ∀ {l : List Nat} {k : Nat}, l.Nodup → q ∉ l → (l.set k q).Nodup
  | [], _, _, _ => by simp
  | y :: l, 0, h, hq => by
    rw [List.nodup_cons] at h
    simp at hq
    rw [List.set_cons_zero, List.nodup_cons]
    exact ⟨hq.2, h.2⟩
  | y :: l, k + 1, h, hq => by
    rw [List.nodup_cons] at h
    simp at hq
    rw [List.set_cons_succ, List.nodup_cons]
    refine ⟨fun hm => ?_, nodup_set h.2 hq.2⟩
    rcases List.mem_or_eq_of_mem_set hm with hm | e
    · exact h.1 hm
    · exact hq.1 e.symm

section
variable {D : FD} {bs : List Nat} {S : List SB}

theorem Books.page (h : Books D bs S) {i k p : Nat} {s : SB} (hs : S[i]? = some s) (hp : s.pgs[k]? = some p) : ∃ P, D.pg p = some P ∧ P.cells = (s.cells.drop (8 * k)).take 8 ∧ P.sh = ((allPgs S).count p : Nat) ∧ 1 ≤ (allPgs S).count p := by
  obtain ⟨P, hP, hc⟩ := h.pg s (List.mem_of_getElem? hs) k p hp
  exact ⟨P, hP, hc, h.sh p P hP, Nat.le_trans (mem_count.1 (List.mem_of_getElem? hp)) (count_le hs p)⟩
theorem Books.new (h : Books D bs S) {q : Nat} (hq : D.pg q = none) : q ∉ allPgs S := by
  intro hm
  obtain ⟨s, hs, hp⟩ := mem_allPgs.1 hm
  obtain ⟨k, hk⟩ := List.getElem?_of_mem hp
  obtain ⟨P, hP, _⟩ := h.pg s hs k q hk
  rw [hq] at hP; cases hP

/-- A page that is shared gives way to one that is the book's own. -/
theorem Books.mine (h : Books D bs S) {i b k p : Nat} {s : SB} {K : BkD} (hb : bs[i]? = some b) (hs : S[i]? = some s) (hK : D.bk b = some K) (hp : K.pgs[k]? = some p) {P : PgD} (hP : D.pg p = some P) {D1 : FD} {p' : Nat} {P' : PgD}
    (hm : MineRel D b K k p P D1 p' P') :
    Books D1 bs (S.set i { s with pgs := s.pgs.set k p' }) ∧ (allPgs (S.set i { s with pgs := s.pgs.set k p' })).count p' ≤ 1 ∧ ((p' = p ∧ (allPgs S).count p ≤ 1) ∨ (1 < (allPgs S).count p ∧ p' ∉ allPgs S)) := by
  obtain ⟨K0, hK0, e1, e2, e3⟩ := h.bk i b s hb hs
  obtain rfl : K0 = K := Option.some.inj (hK0.symm.trans hK)
  have hps : s.pgs[k]? = some p := by rw [← e1]; exact hp
  have hsh := h.sh p P hP
  have hi := (List.getElem?_eq_some_iff.1 hs).1
  cases hm with
  | one h1 =>
    have e : s.pgs.set k p = s.pgs := by
      apply List.ext_getElem?
      intro j
      rw [List.getElem?_set]
      split
      · rename_i e; subst e; rw [if_pos (List.getElem?_eq_some_iff.1 hps).1, hps]
      · rfl
    have e' : S.set i { s with pgs := s.pgs.set k p } = S := by
      rw [e]
      apply List.ext_getElem?
      intro j
      rw [List.getElem?_set]
      split
      · rename_i e; subst e; rw [hs]
      · rfl
    rw [e']
    exact ⟨h, by omega, .inl ⟨rfl, by omega⟩⟩
  | more h1 p' v hq =>
    have hn := h.new hq
    have hne : p' ≠ p := fun e => by rw [e, hP] at hq; cases hq
    have hns : p' ∉ s.pgs := fun hm => hn (mem_allPgs.2 ⟨s, List.mem_of_getElem? hs, hm⟩)
    have hc := fun x => count_set_nat (p := p) (q := p') x hps
    have hcs := fun x => count_set (p := x) (S := S) (i := i) { s with pgs := s.pgs.set k p' } hs
    have hn0 := List.count_eq_zero.2 hn
    have hw := h.wf s (List.mem_of_getElem? hs)
    have hmem : ∀ x, x ∈ allPgs (S.set i { s with pgs := s.pgs.set k p' }) ↔ x ∈ p' :: allPgs S := by
      intro x
      have q1 := hc x
      have q2 := hcs x
      simp only at q2
      rw [List.mem_cons, mem_count, mem_count]
      by_cases hx : x = p
      · subst hx
        rw [if_pos rfl, if_neg hne] at q1
        constructor
        · intro _; exact .inr (by omega)
        · intro _; omega
      · by_cases hx' : x = p'
        · subst hx'
          rw [if_neg (fun e => hx e.symm), if_pos rfl] at q1
          exact ⟨fun _ => .inl rfl, fun _ => by omega⟩
        · rw [if_neg (fun e => hx e.symm), if_neg (fun e => hx' e.symm)] at q1
          constructor
          · intro _; exact .inr (by omega)
          · rintro (e | e)
            · exact absurd e hx'
            · omega
    have hcp := hc p'
    have hcsp := hcs p'
    rw [if_neg hne.symm, if_pos rfl] at hcp
    simp only at hcsp
    refine ⟨h.update hb hs (K' := { K0 with pgs := K0.pgs.set k p' }) (upd_same _ _ _) (fun x hx => upd_ne _ _ hx) ⟨by rw [e1], e2, e3⟩ ⟨by rw [List.length_set]; exact hw.len, hw.n, nodup_set hw.nd hns, hw.gone, hw.small⟩ ?_ ?_ ?_ ?_, by omega, .inr ⟨by omega, hn⟩⟩
    · intro j x hx
      simp only [] at hx ⊢
      rw [List.getElem?_set] at hx
      split at hx
      · rename_i e; subst e
        rw [if_pos (List.getElem?_eq_some_iff.1 hps).1] at hx
        obtain rfl := Option.some.inj hx
        obtain ⟨P0, hP0, hc0⟩ := h.pg s (List.mem_of_getElem? hs) k p hps
        obtain rfl : P0 = P := Option.some.inj (hP0.symm.trans hP)
        exact ⟨_, upd_same _ _ _, hc0⟩
      · rename_i e
        obtain ⟨P0, hP0, hc0⟩ := h.pg s (List.mem_of_getElem? hs) j x hx
        have h1 : x ≠ p' := fun e => hns (e ▸ List.mem_of_getElem? hx)
        have h2 : x ≠ p := fun e' => e (nodup_idx hw.nd hps (e' ▸ hx))
        exact ⟨P0, (upd_ne _ _ h1).trans ((upd_ne _ _ h2).trans hP0), hc0⟩
    · intro j x q Q hj hx hq' hQ
      have hz : q ≠ p' := fun e => by rw [e, hq] at hQ; cases hQ
      by_cases h2 : q = p
      · subst h2
        obtain rfl : Q = P := Option.some.inj (hQ.symm.trans hP)
        exact ⟨_, (upd_ne _ _ hz).trans (upd_same _ _ _), rfl⟩
      · exact ⟨Q, (upd_ne _ _ hz).trans ((upd_ne _ _ h2).trans hQ), rfl⟩
    · intro x X hX
      simp only []
      have q1 := hc x
      rcases upd_cases hX with ⟨rfl, rfl⟩ | ⟨hx, hX⟩
      · simp only []
        omega
      · rw [if_neg (Ne.symm hx)] at q1
        rcases upd_cases hX with ⟨rfl, rfl⟩ | ⟨hx', hX⟩
        · rw [if_pos rfl] at q1
          simp only []
          omega
        · rw [if_neg (Ne.symm hx')] at q1
          have := h.sh x X hX
          omega
    · rw [distinct_congr hmem, distinct, if_neg hn]
      show D.live + 1 = _
      rw [h.live]
      omega
end
end Go.Proofs.Ytdgpblhmfkpblaa.Pg
