/- How a family of books turns, as lists of cells. -/
import Derived.Test.YtdgpblhmfkpblaaPg17
namespace Go.Proofs.Ytdgpblhmfkpblaa.Pg
open Go.RowKit

theorem row_set_ne {l : List CD} {m j : Nat} (c : CD) (h : m / 8 ≠ j) : ((l.set m c).drop (8 * j)).take 8 = (l.drop (8 * j)).take 8 := by
  apply List.ext_getElem?
  intro i
  rw [List.getElem?_take, List.getElem?_take]
  split
  · rw [List.getElem?_drop, List.getElem?_drop, List.getElem?_set_ne (by omega)]
  · rfl
theorem row_set_eq {l : List CD} {m : Nat} (c : CD) : ((l.set m c).drop (8 * (m / 8))).take 8 = ((l.drop (8 * (m / 8))).take 8).set (m % 8) c := by
  apply List.ext_getElem?
  intro i
  rw [List.getElem?_take, List.getElem?_set, List.getElem?_take, List.getElem?_drop, List.getElem?_set, List.length_take, List.length_drop, List.getElem?_drop]
  by_cases h1 : i < 8
  · by_cases h2 : m % 8 = i
    · have h3 : m = 8 * (m / 8) + i := by omega
      by_cases h4 : m < l.length
      · rw [if_pos h1, if_pos h3, if_pos (by omega), if_pos h2, if_pos (by omega)]
      · rw [if_pos h1, if_pos h3, if_neg (by omega), if_pos h2, if_neg (by omega)]
    · rw [if_pos h1, if_neg (by omega), if_neg h2, if_pos h1]
  · rw [if_neg h1, if_neg (by omega), if_neg h1]
theorem row_add_ne {l : List CD} {j : Nat} (c : CD) (h : j < l.length / 8) : ((l ++ [c]).drop (8 * j)).take 8 = (l.drop (8 * j)).take 8 := by
  apply List.ext_getElem?
  intro i
  rw [List.getElem?_take, List.getElem?_take]
  split
  · rw [List.getElem?_drop, List.getElem?_drop, List.getElem?_append_left (by omega)]
  · rfl
theorem row_add_eq {l : List CD} (c : CD) : ((l ++ [c]).drop (8 * (l.length / 8))).take 8 = ((l.drop (8 * (l.length / 8))).take 8) ++ [c] := by
  rw [List.drop_append_of_le_length (by omega), List.take_append, List.take_of_length_le (l := [c])]
  · simp [List.length_drop]; omega

section
variable {D : FD} {bs : List Nat} {S : List SB}

theorem upd_self {α : Type} {f : Nat → Option α} {k : Nat} {v : α} (h : f k = some v) : upd f k v = f := by
  funext x
  by_cases hx : x = k
  · subst hx; rw [upd_same, h]
  · rw [upd_ne _ _ hx]

/-- A page that is the book's own has other cells. -/
theorem Books.cells (h : Books D bs S) {i b k p : Nat} {s : SB} {K : BkD} {P : PgD} (hb : bs[i]? = some b) (hs : S[i]? = some s) (hK : D.bk b = some K) (hp : s.pgs[k]? = some p) (hc1 : (allPgs S).count p ≤ 1) (hP : D.pg p = some P) {v : Value} {l cs : List CD}
    (hlen : s.pgs.length = (cs.length + 7) / 8) (hn : cs.length ≤ 4096) (hg : s.gone = false) (hsm : ∀ c ∈ cs, c.small) (hsame : ∀ j, j ≠ k → j < s.pgs.length → (cs.drop (8 * j)).take 8 = (s.cells.drop (8 * j)).take 8) (hk : l = (cs.drop (8 * k)).take 8) :
    Books { D with pg := upd D.pg p { P with sl := v, cells := l }, bk := upd D.bk b { K with n := cs.length } } bs (S.set i { s with cells := cs }) := by
  obtain ⟨K0, hK0, e1, e2, e3⟩ := h.bk i b s hb hs
  obtain rfl : K0 = K := Option.some.inj (hK0.symm.trans hK)
  have hw := h.wf s (List.mem_of_getElem? hs)
  have hcs := fun x => count_set (p := x) (S := S) (i := i) { s with cells := cs } hs
  simp only [Nat.add_right_cancel_iff] at hcs
  refine h.update hb hs (K' := { K0 with n := cs.length }) (upd_same _ _ _) (fun x hx => upd_ne _ _ hx) ⟨e1, rfl, e3⟩ ⟨hlen, hn, hw.nd, (fun e => by rw [hg] at e; cases e), hsm⟩ ?_ ?_ ?_ ?_
  · intro j x hx
    simp only [] at hx ⊢
    by_cases hj : j = k
    · subst hj
      obtain rfl : x = p := Option.some.inj (hx.symm.trans hp)
      exact ⟨_, upd_same _ _ _, hk⟩
    · obtain ⟨P0, hP0, hc0⟩ := h.pg s (List.mem_of_getElem? hs) j x hx
      exact ⟨P0, (upd_ne _ _ (fun e : x = p => hj (nodup_idx hw.nd hx (by rw [e]; exact hp)))).trans hP0, hc0.trans (hsame j hj (List.getElem?_eq_some_iff.1 hx).1).symm⟩
  · intro j x q Q hj hx hq hQ
    by_cases hqp : q = p
    · subst hqp
      have h1 := count_two hs hx hj q
      have h2 := mem_count.1 (List.mem_of_getElem? hp)
      have h3 := mem_count.1 hq
      omega
    · exact ⟨Q, (upd_ne _ _ hqp).trans hQ, rfl⟩
  · intro x X hX
    simp only []
    rcases upd_cases hX with ⟨rfl, rfl⟩ | ⟨_, hX⟩
    · have := h.sh x P hP
      simp only []
      omega
    · have := h.sh x X hX
      omega
  · show D.live = _
    rw [h.live, distinct_congr (l := allPgs (S.set i { s with cells := cs })) (l' := allPgs S) (fun x => by rw [mem_count, mem_count, hcs x])]

/-- How a book comes to a page of its own. -/
inductive OwnRel (S : List SB) (s : SB) (k : Nat) : List Nat → Prop
  | keep {p : Nat} (hp : s.pgs[k]? = some p) (h : (allPgs S).count p ≤ 1) : OwnRel S s k s.pgs
  | copy {p q : Nat} (hp : s.pgs[k]? = some p) (h : 1 < (allPgs S).count p) (hq : q ∉ allPgs S) : OwnRel S s k (s.pgs.set k q)
  | new {q : Nat} (hk : k = s.pgs.length) (hq : q ∉ allPgs S) : OwnRel S s k (s.pgs ++ [q])

theorem set_same {l : List Nat} {k p : Nat} (h : l[k]? = some p) : l.set k p = l := by
  apply List.ext_getElem?
  intro j
  rw [List.getElem?_set]
  split
  · rename_i e; subst e; rw [if_pos (List.getElem?_eq_some_iff.1 h).1, h]
  · rfl

/-- A cell that is there is another one. -/
theorem Books.set (h : Books D bs S) {i b k p : Nat} {s : SB} {K : BkD} (hb : bs[i]? = some b) (hs : S[i]? = some s) (hK : D.bk b = some K) (hk : k < s.cells.length) (hp : K.pgs[k / 8]? = some p) {P : PgD} (hP : D.pg p = some P) {D1 : FD} {p' : Nat} {P' : PgD}
    (hm : MineRel D b K (k / 8) p P D1 p' P') {c : CD} (hc : c.small) :
    ∃ ps, OwnRel S s (k / 8) ps ∧ Books { D1 with pg := upd D1.pg p' { P' with cells := P.cells.set (k % 8) c } } bs (S.set i { s with cells := s.cells.set k c, pgs := ps }) := by
  obtain ⟨K0, hK0, e1, e2, e3⟩ := h.bk i b s hb hs
  obtain rfl : K0 = K := Option.some.inj (hK0.symm.trans hK)
  have hi := (List.getElem?_eq_some_iff.1 hs).1
  have hps : s.pgs[k / 8]? = some p := by rw [← e1]; exact hp
  obtain ⟨h1, h2, h3⟩ := h.mine hb hs hK hp hP hm
  have hw := h.wf s (List.mem_of_getElem? hs)
  have hg : s.gone = false := by
    cases hg : s.gone with
    | false => rfl
    | true => have := hw.gone hg; rw [this] at hk; simp at hk
  have hs1 : (S.set i { s with pgs := s.pgs.set (k / 8) p' })[i]? = some { s with pgs := s.pgs.set (k / 8) p' } := by rw [List.getElem?_set]; simp [hi]
  have hlt := (List.getElem?_eq_some_iff.1 hps).1
  have hP1 := hm.at_ hP
  have hK1 := hm.bk hK hp
  obtain ⟨P0, hP0, hc0, _⟩ := h.page hs hps
  obtain rfl : P0 = P := Option.some.inj (hP0.symm.trans hP)
  have h4 := h1.cells hb hs1 hK1 (k := k / 8) (p := p') (by rw [List.getElem?_set]; simp [hlt]) h2 hP1 (v := P'.sl) (l := P0.cells.set (k % 8) c) (cs := s.cells.set k c)
    (by simp only [List.length_set]; exact hw.len) (by rw [List.length_set]; exact hw.n) hg (fun x hx => (List.mem_or_eq_of_mem_set hx).elim (hw.small x) (fun e => e ▸ hc)) (fun j hj _ => row_set_ne c (Ne.symm hj)) (by rw [hc0, row_set_eq])
  have e4 : upd D1.bk b { { K0 with pgs := K0.pgs.set (k / 8) p' } with n := (s.cells.set k c).length } = D1.bk := by
    have : ({ { K0 with pgs := K0.pgs.set (k / 8) p' } with n := (s.cells.set k c).length } : BkD) = { K0 with pgs := K0.pgs.set (k / 8) p' } := by rw [List.length_set, ← e2]
    rw [this]
    exact upd_self hK1
  rw [List.set_set] at h4
  simp only [] at h4
  rw [e4] at h4
  refine ⟨s.pgs.set (k / 8) p', ?_, h4⟩
  rcases h3 with ⟨rfl, hc⟩ | ⟨hc, hn⟩
  · rw [set_same hps]; exact .keep hps hc
  · exact .copy hps hc hn

/-- A cell more, on a page that is there. -/
theorem Books.addOld (h : Books D bs S) {i b p : Nat} {s : SB} {K : BkD} (hb : bs[i]? = some b) (hs : S[i]? = some s) (hK : D.bk b = some K) (hg : s.gone = false) (hn : s.cells.length < 4096) (hp : K.pgs[s.cells.length / 8]? = some p) {P : PgD} (hP : D.pg p = some P) {D1 : FD} {p' : Nat} {P' : PgD} {v : Value}
    (hm : MineRel D b K (s.cells.length / 8) p P D1 p' P') {c : CD} (hc : c.small) :
    ∃ ps, OwnRel S s (s.cells.length / 8) ps ∧ Books (added D1 b { K with pgs := K.pgs.set (s.cells.length / 8) p' } p' P' v c) bs (S.set i { s with cells := s.cells ++ [c], pgs := ps }) := by
  obtain ⟨K0, hK0, e1, e2, e3⟩ := h.bk i b s hb hs
  obtain rfl : K0 = K := Option.some.inj (hK0.symm.trans hK)
  have hi := (List.getElem?_eq_some_iff.1 hs).1
  have hps : s.pgs[s.cells.length / 8]? = some p := by rw [← e1]; exact hp
  obtain ⟨h1, h2, h3⟩ := h.mine hb hs hK hp hP hm
  have hw := h.wf s (List.mem_of_getElem? hs)
  have hs1 : (S.set i { s with pgs := s.pgs.set (s.cells.length / 8) p' })[i]? = some { s with pgs := s.pgs.set (s.cells.length / 8) p' } := by rw [List.getElem?_set]; simp [hi]
  have hlt := (List.getElem?_eq_some_iff.1 hps).1
  have hP1 := hm.at_ hP
  have hK1 := hm.bk hK hp
  obtain ⟨P0, hP0, hc0, _⟩ := h.page hs hps
  obtain rfl : P0 = P := Option.some.inj (hP0.symm.trans hP)
  have h4 := h1.cells hb hs1 hK1 (k := s.cells.length / 8) (p := p') (by rw [List.getElem?_set]; simp [hlt]) h2 hP1 (v := v) (l := P'.cells ++ [c]) (cs := s.cells ++ [c])
    (by simp only [List.length_set, List.length_append, List.length_cons, List.length_nil]; have := hw.len; omega) (by simp; omega) hg (fun x hx => by
      rcases List.mem_append.1 hx with hx | hx
      · exact hw.small x hx
      · rw [List.mem_singleton.1 hx]; exact hc) (fun j hj hj' => row_add_ne c (by simp only [List.length_set] at hj'; have := hw.len; omega)) (by rw [hm.cells, hc0, row_add_eq])
  rw [List.set_set] at h4
  have e4 : (s.cells ++ [c]).length = K0.n + 1 := by rw [e2]; simp
  simp only [] at h4
  rw [e4] at h4
  refine ⟨s.pgs.set (s.cells.length / 8) p', ?_, h4⟩
  rcases h3 with ⟨rfl, hc⟩ | ⟨hc, hn⟩
  · rw [set_same hps]; exact .keep hps hc
  · exact .copy hps hc hn

/-- A cell more, on a page more. -/
theorem Books.addNew (h : Books D bs S) {i b q : Nat} {s : SB} {K : BkD} (hb : bs[i]? = some b) (hs : S[i]? = some s) (hK : D.bk b = some K) (hg : s.gone = false) (hn : s.cells.length < 4096) (hm8 : s.cells.length % 8 = 0) (hq : D.pg q = none) {v v' : Value} {c : CD} (hc : c.small) :
    OwnRel S s (s.cells.length / 8) (s.pgs ++ [q]) ∧ Books (added (paged D b K q v) b { K with sl := v, pgs := K.pgs ++ [q] } q { sl := .slice none 0 0, cells := [], sh := 1 } v' c) bs (S.set i { s with cells := s.cells ++ [c], pgs := s.pgs ++ [q] }) := by
  obtain ⟨K0, hK0, e1, e2, e3⟩ := h.bk i b s hb hs
  obtain rfl : K0 = K := Option.some.inj (hK0.symm.trans hK)
  have hw := h.wf s (List.mem_of_getElem? hs)
  have hnew := h.new hq
  have hns : q ∉ s.pgs := fun hm => hnew (mem_allPgs.2 ⟨s, List.mem_of_getElem? hs, hm⟩)
  have hl := hw.len
  have hk8 : s.cells.length / 8 = s.pgs.length := by omega
  have hcs := fun x => count_set (p := x) (S := S) (i := i) { s with cells := s.cells ++ [c], pgs := s.pgs ++ [q] } hs
  have hcq : ∀ x, (s.pgs ++ [q]).count x = s.pgs.count x + (if q = x then 1 else 0) := fun x => by
    simp only [List.count_append, List.count_cons, List.count_nil, beq_iff_eq]
    omega
  have hn0 := List.count_eq_zero.2 hnew
  refine ⟨.new hk8 hnew, h.update hb hs (K' := ({ sl := v, pgs := K0.pgs ++ [q], n := K0.n + 1, gone := K0.gone } : BkD)) (upd_same _ _ _) (fun x hx => (upd_ne _ _ hx).trans (upd_ne _ _ hx)) ⟨by simp only []; rw [e1], by simp [e2], e3⟩ ⟨by simp; omega, by simp; omega, ?_, (fun e => by rw [hg] at e; cases e), ?_⟩ ?_ ?_ ?_ ?_⟩
  · rw [List.nodup_append]
    exact ⟨hw.nd, by simp, fun a ha b' hb' e => by rw [List.mem_singleton.1 hb'] at e; exact hns (e ▸ ha)⟩
  · intro x hx
    rcases List.mem_append.1 hx with hx | hx
    · exact hw.small x hx
    · rw [List.mem_singleton.1 hx]; exact hc
  · intro j x hx
    simp only [] at hx ⊢
    rw [List.getElem?_append] at hx
    split at hx
    · rename_i hj
      obtain ⟨P0, hP0, hc0⟩ := h.pg s (List.mem_of_getElem? hs) j x hx
      have hne : x ≠ q := fun e => hns (e ▸ List.mem_of_getElem? hx)
      exact ⟨P0, (upd_ne _ _ hne).trans ((upd_ne _ _ hne).trans hP0), hc0.trans (row_add_ne c (by omega)).symm⟩
    · rename_i hj
      have hj0 : j = s.pgs.length := by
        have := (List.getElem?_eq_some_iff.1 hx).1
        simp at this; omega
      subst hj0
      simp at hx
      subst hx
      refine ⟨_, upd_same _ _ _, ?_⟩
      rw [← hk8, row_add_eq, List.drop_eq_nil_of_le (by omega)]
      rfl
  · intro j x y Y hj hx hy hY
    have hne : y ≠ q := fun e => hnew (e ▸ mem_allPgs.2 ⟨x, List.mem_of_getElem? hx, hy⟩)
    exact ⟨Y, (upd_ne _ _ hne).trans ((upd_ne _ _ hne).trans hY), rfl⟩
  · intro x X hX
    simp only []
    have q1 := hcq x
    rcases upd_cases hX with ⟨rfl, rfl⟩ | ⟨hx, hX⟩
    · rw [if_pos rfl] at q1
      simp only []
      omega
    · rcases upd_cases hX with ⟨hx', _⟩ | ⟨_, hX⟩
      · exact absurd hx' hx
      · rw [if_neg (Ne.symm hx)] at q1
        have := h.sh x X hX
        omega
  · have hmem : ∀ x, x ∈ allPgs (S.set i { s with cells := s.cells ++ [c], pgs := s.pgs ++ [q] }) ↔ x ∈ q :: allPgs S := by
      intro x
      have q1 := hcq x
      have q2 := hcs x
      simp only at q2
      rw [List.mem_cons, mem_count, mem_count]
      by_cases hx : x = q
      · subst hx
        rw [if_pos rfl] at q1
        exact ⟨fun _ => .inl rfl, fun _ => by omega⟩
      · rw [if_neg (Ne.symm hx)] at q1
        constructor
        · intro _; exact .inr (by omega)
        · rintro (e | e)
          · exact absurd e hx
          · omega
    rw [distinct_congr hmem, distinct, if_neg hnew]
    show D.live + 1 = _
    rw [h.live]
    omega
end
end Go.Proofs.Ytdgpblhmfkpblaa.Pg
