/- A row of a law's own beside a family; marks of marks. -/
import Derived.Test.YtljbdmmidajmdaaPg30
import Derived.Deep.AppendLies
namespace Go.Proofs.Ytljbdmmidajmdaa.Pg
open Go.RowKit

/-- A slice that the law made, apart from the family. -/
structure Row (B : Nat) (w : World) (D : FD) (T : TypeId) (sz : Nat) (g n cap : Nat) (xs : List Value) : Prop where
  own : w.ownsRow B T sz (.slice (some ⟨g, 0, none⟩) n cap) n xs
  no : ¬ Foot D g

section
variable {B : Nat} {w w' : World} {D D' : FD} {T sz g n cap : Nat} {xs : List Value}
theorem Row.block (h : Row B w D T sz g n cap xs) : ∃ cur, B ≤ g ∧ w.heap[g]? = some (.cells cur T (0, 0)) ∧ n ≤ cap ∧ cap ≤ maxLen ∧ cur.size = cap * sz ∧ cur.toList.take (n * sz) = xs := by
  rcases h.own.2 with ⟨h1, _⟩ | ⟨g', cap', cur, h1, h2, h3, h4, h5, h6, h7⟩
  · cases h1
  · injection h1 with h1 _ hc
    injection h1 with h1
    injection h1 with h1
    subst h1; subst hc
    exact ⟨cur, h2, h3, h4, h5, h6, h7⟩
theorem Row.typ (h : Row B w D T sz g n cap xs) : Typ w g T := by obtain ⟨cur, _, h1, _⟩ := h.block; exact Typ.of h1
theorem Row.lt (h : Row B w D T sz g n cap xs) : g < w.heap.size := h.typ.lt
theorem Row.base (h : Row B w D T sz g n cap xs) : B ≤ g := by obtain ⟨cur, h1, _⟩ := h.block; exact h1
theorem Row.length (h : Row B w D T sz g n cap xs) : xs.length = n * sz := h.own.1
theorem Row.same (h : Row B w D T sz g n cap xs) (hb : w'.heap[g]? = w.heap[g]?) (hn : ¬ Foot D' g) : Row B w' D' T sz g n cap xs := by
  obtain ⟨cur, h2, h3, h4, h5, h6, h7⟩ := h.block
  exact ⟨⟨h.own.1, .inr ⟨g, cap, cur, rfl, h2, hb.trans h3, h4, h5, h6, h7⟩⟩, hn⟩
theorem Row.goes (h : Row B w D T sz g n cap xs) (hG : Goes B w D w' D') : Row B w' D' T sz g n cap xs :=
  h.same (hG.keep g h.lt h.no) (fun hf => (hG.foot g hf).elim h.no (fun e => by have := h.lt; omega))
theorem Row.below (h : Row B w D T sz g n cap xs) (hb : Below w.heap.size w w') : Row B w' D T sz g n cap xs := h.same (hb.block g h.lt) h.no
theorem Row.at_ (h : Row B w D T sz g n cap xs) {j : Nat} {u : Value} (hj : xs[j]? = some u) : w.cell? ⟨g, j, none⟩ = some u := by
  have := h.own.cells (g := g) rfl j u hj
  have hadd : (⟨g, 0, none⟩ : Addr).add j = ⟨g, j, none⟩ := by unfold Addr.add; split <;> simp_all
  rwa [hadd] at this
/-- What is appended to it leaves the family as it was. -/
theorem Row.grow (h : Row B w D T sz g n cap xs) (hF : Fam B w D) (hB : B ≤ w.heap.size) (hT : T ≠ 9) (hT' : T ≠ 60) (hg : w.grownBy w' (some g)) {g' n' cap' : Nat} {xs' : List Value}
    (ho : w'.ownsRow B T sz (.slice (some ⟨g', 0, none⟩) n' cap') n' xs') (hat : some g = some g' ∨ w.heap.size ≤ g') : Fam B w' D ∧ Row B w' D T sz g' n' cap' xs' ∧ Below B w w' := by
  have hf : Fr B w w' := ⟨hg.os, hg.tape, hg.output, hg.size, fun k hk => by
    refine hg.block k hk.1 (fun e => ?_)
    obtain rfl : k = g := by simpa using e
    rcases hk.2 with h1 | ⟨cs, fr, T', h1, h2⟩
    · have := h.base; omega
    · have := h.typ.uniq (Typ.of h1)
      subst this
      rcases h2 with h2 | h2
      · exact hT h2
      · exact hT' h2⟩
  refine ⟨hF.move hf (fun k hk => hg.block k (hF.foot_lt hk).1 (fun e => h.no ((show k = g by simpa using e) ▸ hk))), ⟨ho, fun hk => ?_⟩, hf.below hB⟩
  rcases hat with e | e
  · obtain rfl : g = g' := by simpa using e
    exact h.no hk
  · have := (hF.foot_lt hk).1; omega
end

/-- The cells of the i-th of a chain of marks, each written on once. -/
def chained (k : Nat) (at_ : Nat → Nat) : Nat → List CD
  | 0 => counted 1 k
  | i + 1 => (chained k at_ i).set (at_ i) ⟨2, i, 0, [], []⟩
theorem chained_length (k : Nat) (at_ : Nat → Nat) : ∀ i, (chained k at_ i).length = k
  | 0 => counted_length 1 k
  | i + 1 => by rw [chained, List.length_set]; exact chained_length k at_ i
theorem chained_new {k : Nat} {at_ : Nat → Nat} {i : Nat} (h : at_ i < k) : (chained k at_ (i + 1))[at_ i]? = some ⟨2, i, 0, [], []⟩ := by
  rw [chained, List.getElem?_set, if_pos rfl, chained_length]; simp [h]
theorem chained_old {k : Nat} {at_ : Nat → Nat} : ∀ {i j : Nat}, j < k → ∃ kd a, (chained k at_ i)[j]? = some ⟨kd, a, 0, [], []⟩ ∧ (kd = 2 → a < i)
  | 0, j, h => ⟨1, j, counted_at 1 h, fun e => by omega⟩
  | i + 1, j, h => by
    rw [chained, List.getElem?_set]
    split
    · rw [chained_length, if_pos (by omega)]
      exact ⟨2, i, rfl, fun _ => by omega⟩
    · obtain ⟨kd, a, h1, h2⟩ := chained_old (at_ := at_) (i := i) h
      exact ⟨kd, a, h1, fun e => by have := h2 e; omega⟩

/-- Books bs: each is the mark of the one ahead of it, written on once; q pages each. -/
structure Chain (B : Nat) (w : World) (D : FD) (bs : List Nat) (q L : Nat) (at_ : Nat → Nat) : Prop where
  mk' ::
  ex : ∃ S, Fam B w D ∧ Books D bs S ∧ S.length = L + 1 ∧ (∀ i s, S[i]? = some s → s.cells = chained (8 * q) at_ i ∧ s.gone = false) ∧ distinct (allPgs S) = q + L
/-- Behind the next mark, not yet written on. -/
structure ChainM (B : Nat) (w : World) (D : FD) (bs : List Nat) (m q L : Nat) (at_ : Nat → Nat) : Prop where
  mk' ::
  ex : ∃ S s, Fam B w D ∧ Books D (bs ++ [m]) (S ++ [s]) ∧ S.length = L + 1 ∧ (∀ i s, S[i]? = some s → s.cells = chained (8 * q) at_ i ∧ s.gone = false) ∧ distinct (allPgs S) = q + L ∧ S[L]? = some s
section
variable {B : Nat} {w : World} {D : FD} {bs : List Nat} {q L m : Nat} {at_ : Nat → Nat}
theorem Chain.fam (h : Chain B w D bs q L at_) : Fam B w D := by obtain ⟨S, h1, _⟩ := h.ex; exact h1
theorem Chain.len (h : Chain B w D bs q L at_) : bs.length = L + 1 := by obtain ⟨S, h1, h2, h3, _⟩ := h.ex; exact h2.len.trans h3
theorem Chain.move (h : Chain B w D bs q L at_) {w' : World} (hf : Fam B w' D) : Chain B w' D bs q L at_ := by obtain ⟨S, _, r⟩ := h.ex; exact ⟨⟨S, hf, r⟩⟩
theorem Chain.below (h : Chain B w D bs q L at_) {w' : World} (hb : Below w.heap.size w w') : Chain B w' D bs q L at_ := h.move (h.fam.below hb)
theorem Solo.chain {b : Nat} (h : Solo B w b (counted 1 (8 * q))) : ∃ D, Chain B w D [b] q 0 at_ := by
  obtain ⟨D, ps, hF, hS⟩ := h
  refine ⟨D, ⟨⟨_, hF, hS, rfl, fun i s hs => ?_, ?_⟩⟩⟩
  · have hi := (List.getElem?_eq_some_iff.1 hs).1
    simp at hi
    subst hi
    simp at hs
    subst hs
    exact ⟨rfl, rfl⟩
  · rw [distinct_one (hS.wf _ List.mem_cons_self)]
    simp only [counted_length]
    omega
theorem Chain.live (h : Chain B w D bs q L at_) {b : Nat} (hb : bs[0]? = some b) {n : Int} (hn : ((q + L : Nat) : Int) = n) : Calls Try.prog 18 #[ptr b] w fun e w' => e = .returned (.int .i64 n) ∧ w' = w := by
  obtain ⟨S, h1, h2, h3, h4, h5⟩ := h.ex
  exact LiveIs h1 h2 hb (List.getElem?_eq_getElem (by omega)) (by rw [h5]; exact hn)
theorem Chain.get (h : Chain B w D bs q L at_) (hB : B ≤ w.heap.size) {i b : Nat} (hb : bs[i]? = some b) {x : Int} (h0 : 0 ≤ x) {c : CD} (hc : (chained (8 * q) at_ i)[x.toNat]? = some c) :
    Calls Try.prog 15 #[ptr b, .int .i64 x] w fun e w' => ∃ A n cap A' n' cap', e = .returned (.tuple #[.agg #[.int .i64 c.kind, .int .i64 c.a, .int .i64 c.b, .slice A n cap, .slice A' n' cap'], .int .i64 0]) ∧ Below w.heap.size w w' ∧ Reads B w' c (.slice A n cap) (.slice A' n' cap') := by
  obtain ⟨S, h1, h2, h3, h4, h5⟩ := h.ex
  have hi : i < S.length := by rw [← h2.len]; exact (List.getElem?_eq_some_iff.1 hb).1
  have hs := List.getElem?_eq_getElem hi
  exact GetIs h1 hB h2 hb hs x h0 (by rw [(h4 i _ hs).1]; exact hc)
theorem Chain.mark (h : Chain B w D bs q L at_) (hB : B ≤ w.heap.size) (hL : L ≤ 10) {b : Nat} (hb : bs[L]? = some b) :
    Calls Try.prog 20 #[ptr b] w fun e w' => ∃ m, e = .returned (.pointer (some ⟨m, 0, none⟩)) ∧ ∃ D', ChainM B w' D' bs m q L at_ ∧ Goes B w D w' D' := by
  obtain ⟨S, h1, h2, h3, h4, h5⟩ := h.ex
  have hs : S[L]? = some S[L] := List.getElem?_eq_getElem (by omega)
  refine (Mark h1 hB h2 (by omega) hb hs (h4 L _ hs).2).mono ?_
  rintro e w' ⟨m, rfl, D', _, hF', hG, hS'⟩
  exact ⟨m, rfl, D', ⟨⟨S, _, hF', hS', h3, h4, h5, hs⟩⟩, hG⟩
theorem ChainM.fam (h : ChainM B w D bs m q L at_) : Fam B w D := by obtain ⟨S, s, h1, _⟩ := h.ex; exact h1
theorem ChainM.below (h : ChainM B w D bs m q L at_) {w' : World} (hb : Below w.heap.size w w') : ChainM B w' D bs m q L at_ := by
  obtain ⟨S, s, h1, r⟩ := h.ex
  exact ⟨⟨S, s, h1.below hb, r⟩⟩
theorem ChainM.len (h : ChainM B w D bs m q L at_) : bs.length = L + 1 := by
  obtain ⟨S, s, h1, h2, h3, _⟩ := h.ex
  have := h2.len
  simp only [List.length_append, List.length_cons, List.length_nil] at this
  omega
theorem ChainM.live (h : ChainM B w D bs m q L at_) {n : Int} (hn : ((q + L : Nat) : Int) = n) : Calls Try.prog 18 #[ptr m] w fun e w' => e = .returned (.int .i64 n) ∧ w' = w := by
  have hl := h.len
  obtain ⟨S, s, h1, h2, h3, h4, h5, hs⟩ := h.ex
  refine LiveIs h1 h2 (i := L + 1) (by rw [List.getElem?_append_right (by omega), hl]; simp) (by rw [List.getElem?_append_right (by omega), h3]; simp; rfl) ?_
  rw [distinct_congr (l' := allPgs S), h5]
  · exact hn
  · intro p
    rw [allPgs_append]
    simp only [List.mem_append]
    refine ⟨fun hp => hp.elim id (fun hp => ?_), .inl⟩
    simp [allPgs] at hp
    exact mem_allPgs.2 ⟨s, List.mem_of_getElem? hs, hp⟩
theorem ChainM.set (h : ChainM B w D bs m q L at_) (hB : B ≤ w.heap.size) (hL : L ≤ 10) {x : Int} (h0 : 0 ≤ x) (hx : x.toNat = at_ L) (hk : at_ L < 8 * q) :
    Calls Try.prog 21 #[ptr m, .int .i64 x, .agg #[.int .i64 2, .int .i64 (L : Nat), .int .i64 0, .slice none 0 0, .slice none 0 0]] w fun e w' => e = .returned (.int .i64 0) ∧ ∃ D', Chain B w' D' (bs ++ [m]) q (L + 1) at_ ∧ Goes B w D w' D' := by
  have hl := h.len
  obtain ⟨S, s, h1, h2, h3, h4, h5, hs⟩ := h.ex
  have hc := (h4 L s hs).1
  have hwf := h2.wf s (List.mem_append_right _ List.mem_cons_self)
  have := Set h1 hB h2 (by simp; omega) (i := L + 1) (b := m) (s := s) (by rw [List.getElem?_append_right (by omega), hl]; simp) (by rw [List.getElem?_append_right (by omega), h3]; simp) x.toNat (by rw [hc, chained_length, hx]; exact hk)
    (c := ⟨2, (L : Nat), 0, [], []⟩) (noReads _ _ _) (noSmall _ _ _)
  rw [Int.toNat_of_nonneg h0] at this
  refine this.mono ?_
  rintro e w' ⟨rfl, D', ps, ho, hF', hG, hS'⟩
  refine ⟨rfl, D', ⟨⟨S ++ [{ s with cells := s.cells.set x.toNat ⟨2, (L : Nat), 0, [], []⟩, pgs := ps }], hF', ?_, by simp; omega, ?_, ?_⟩⟩, hG⟩
  · rwa [List.set_append, if_neg (by omega), show L + 1 - S.length = 0 by omega, List.set_cons_zero] at hS'
  · intro i y hy
    rcases Nat.lt_or_ge i S.length with hi | hi
    · rw [List.getElem?_append_left hi] at hy
      exact h4 i y hy
    · rw [List.getElem?_append_right hi] at hy
      have hi' := (List.getElem?_eq_some_iff.1 hy).1
      simp only [List.length_cons, List.length_nil] at hi'
      obtain rfl : i = L + 1 := by omega
      rw [h3, Nat.sub_self] at hy
      simp only [List.getElem?_cons_zero, Option.some.injEq] at hy
      subst hy
      exact ⟨by rw [chained, hc, hx], (h4 L s hs).2⟩
  · rw [allPgs_append]
    cases ho with
    | @keep p0 hp hcnt =>
      exfalso
      have q1 := mem_count.1 (List.mem_of_getElem? hp)
      have q2 := count_le hs p0
      rw [allPgs_append, List.count_append] at hcnt
      simp only [allPgs, List.flatMap_cons, List.flatMap_nil, List.append_nil] at hcnt q2
      omega
    | @copy p0 p1 hp hcnt hq =>
      have hps : ∀ p, p ∈ s.pgs.set (x.toNat / 8) p1 → p = p1 ∨ p ∈ s.pgs := fun p hp => (List.mem_or_eq_of_mem_set hp).symm
      have hlt := (List.getElem?_eq_some_iff.1 hp).1
      rw [distinct_congr (l' := p1 :: allPgs S), distinct, if_neg, h5]
      · omega
      · exact fun hm => hq (by rw [allPgs_append]; exact List.mem_append_left _ hm)
      · intro p
        simp only [allPgs, List.flatMap_cons, List.flatMap_nil, List.append_nil, List.mem_append, List.mem_cons]
        constructor
        · rintro (hm | hm)
          · exact .inr hm
          · rcases hps p hm with e | e
            · exact .inl e
            · exact .inr (mem_allPgs.2 ⟨s, List.mem_of_getElem? hs, e⟩)
        · rintro (rfl | hm)
          · exact .inr (List.mem_set hlt _)
          · exact .inl hm
    | new hk' hq =>
      have := hwf.len
      rw [hc, chained_length] at this
      omega
end
end Go.Proofs.Ytljbdmmidajmdaa.Pg
