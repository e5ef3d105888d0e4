/- How many there are of some numbers, each counted once; books as lists of cells and of pages. -/
import Derived.Test.YtdgpblhmfkpblaaPg13
namespace Go.Proofs.Ytdgpblhmfkpblaa.Pg
open Go.RowKit

/-- How many numbers a list has, each counted once. -/
def distinct : List Nat → Nat
  | [] => 0
  | p :: l => (if p ∈ l then 0 else 1) + distinct l

theorem countP_more (f : Nat → Bool) (p : Nat) : ∀ N, (List.range N).countP (fun x => decide (x = p) || f x) = (List.range N).countP f + (if p < N then (if f p = true then 0 else 1) else 0)
  | 0 => by simp
  | N + 1 => by
    rw [List.range_succ, List.countP_append, List.countP_append, countP_more f p N]
    simp only [List.countP_cons, List.countP_nil, Bool.or_eq_true, decide_eq_true_eq]
    by_cases h1 : N = p
    · subst h1
      by_cases h2 : f N = true <;> simp [h2]
    · have h3 : (p < N + 1) = (p < N) := by apply propext; omega
      have h4 : p ≠ N := fun e => h1 e.symm
      simp only [h1, false_or, h3]
      omega
theorem distinct_range {N : Nat} : ∀ {l : List Nat}, (∀ p ∈ l, p < N) → distinct l = (List.range N).countP (fun x => decide (x ∈ l))
  | [], _ => by simp [distinct]
  | p :: l, h => by
    have h1 := distinct_range (l := l) (fun q hq => h q (List.mem_cons_of_mem _ hq))
    have h2 := countP_more (fun x => decide (x ∈ l)) p N
    have h3 : (fun x => decide (x ∈ p :: l)) = (fun x => decide (x = p) || decide (x ∈ l)) := by funext x; simp [Bool.decide_or]
    rw [h3, h2, if_pos (h p List.mem_cons_self), distinct, h1]
    simp only [decide_eq_true_eq]
    omega
theorem le_sum_of_mem : ∀ {l : List Nat} {p : Nat}, p ∈ l → p ≤ l.sum
  | q :: l, p, h => by
    rw [List.sum_cons]
    rcases List.mem_cons.1 h with rfl | h
    · omega
    · have := le_sum_of_mem h; omega
theorem distinct_congr {l l' : List Nat} (h : ∀ p, p ∈ l ↔ p ∈ l') : distinct l = distinct l' := by
  have h1 : ∀ p ∈ l, p < l.sum + 1 := fun p hp => Nat.lt_succ_of_le (le_sum_of_mem hp)
  rw [distinct_range h1, distinct_range (N := l.sum + 1) (l := l') (fun p hp => h1 p ((h p).2 hp))]
  have : (fun x => decide (x ∈ l)) = (fun x => decide (x ∈ l')) := by funext x; simp [h x]
  rw [this]
theorem distinct_append : ∀ {ps : List Nat} (l : List Nat), ps.Nodup → distinct (ps ++ l) = ps.countP (fun p => decide (p ∉ l)) + distinct l
  | [], l, _ => by simp
  | p :: ps, l, h => by
    rw [List.nodup_cons] at h
    rw [List.cons_append, distinct, distinct_append l h.2, List.countP_cons]
    have : (p ∈ ps ++ l) ↔ p ∈ l := by simp [h.1]
    by_cases hp : p ∈ l
    · simp [this, hp]
    · simp [this, hp]; omega
theorem distinct_le (l : List Nat) : distinct l ≤ l.length := by
  induction l with
  | nil => simp [distinct]
  | cons p l ih =>
    rw [distinct, List.length_cons]
    have : (if p ∈ l then 0 else 1) ≤ 1 := by split <;> omega
    omega
theorem distinct_nodup : ∀ {l : List Nat}, l.Nodup → distinct l = l.length
  | [], _ => rfl
  | p :: l, h => by
    rw [List.nodup_cons] at h
    rw [distinct, if_neg h.1, distinct_nodup h.2, List.length_cons]; omega
theorem distinct_map {f : Nat → Nat} : ∀ {l : List Nat}, (∀ p q, p ∈ l → q ∈ l → f p = f q → p = q) → distinct (l.map f) = distinct l
  | [], _ => rfl
  | p :: l, h => by
    rw [List.map_cons, distinct, distinct, distinct_map (fun a b ha hb => h a b (List.mem_cons_of_mem _ ha) (List.mem_cons_of_mem _ hb))]
    have : f p ∈ l.map f ↔ p ∈ l := by
      constructor
      · intro hm
        obtain ⟨q, hq, e⟩ := List.mem_map.1 hm
        rw [← h q p (List.mem_cons_of_mem _ hq) List.mem_cons_self e]; exact hq
      · exact fun hm => List.mem_map_of_mem hm
    simp [this]

/-- A book: its cells, its pages, whether it was dropped. -/
structure SB where
  cells : List CD
  pgs : List Nat
  gone : Bool
/-- All books' pages. -/
def allPgs (S : List SB) : List Nat := S.flatMap SB.pgs
theorem mem_allPgs {S : List SB} {p : Nat} : p ∈ allPgs S ↔ ∃ s ∈ S, p ∈ s.pgs := by simp [allPgs]
theorem mem_set_iff {S : List SB} {i : Nat} {s : SB} (s' : SB) (hs : S[i]? = some s) (P : SB → Prop) : (∃ x ∈ S.set i s', P x) ↔ P s' ∨ ∃ j x, j ≠ i ∧ S[j]? = some x ∧ P x := by
  have hi := (List.getElem?_eq_some_iff.1 hs).1
  constructor
  · rintro ⟨x, hx, hp⟩
    obtain ⟨j, hj⟩ := List.getElem?_of_mem hx
    rw [List.getElem?_set] at hj
    split at hj
    · rename_i e; subst e; simp at hj; subst hj; exact .inl hp
    · rename_i e; exact .inr ⟨j, x, fun e' => e e'.symm, hj, hp⟩
  · rintro (hp | ⟨j, x, hj, hx, hp⟩)
    · exact ⟨s', List.mem_of_getElem? (i := i) (by rw [List.getElem?_set]; simp [hi]), hp⟩
    · exact ⟨x, List.mem_of_getElem? (i := j) (by rw [List.getElem?_set]; simp [Ne.symm hj, hx]), hp⟩
theorem count_set {p : Nat} : ∀ {S : List SB} {i : Nat} {s : SB} (s' : SB), S[i]? = some s → (allPgs (S.set i s')).count p + s.pgs.count p = (allPgs S).count p + s'.pgs.count p
  | x :: S, 0, s, s', h => by
    simp at h; subst h
    simp [allPgs, List.count_append]; omega
  | x :: S, i + 1, s, s', h => by
    have := count_set (p := p) (S := S) (i := i) s' (by simpa using h)
    simp only [List.set_cons_succ, allPgs, List.flatMap_cons, List.count_append] at this ⊢
    omega
theorem allPgs_append (S T : List SB) : allPgs (S ++ T) = allPgs S ++ allPgs T := by simp [allPgs]
theorem allPgs_length {S : List SB} {n : Nat} (h : ∀ s ∈ S, s.pgs.length ≤ n) : (allPgs S).length ≤ S.length * n := by
  induction S with
  | nil => simp [allPgs]
  | cons s S ih =>
    have h1 := ih (fun x hx => h x (List.mem_cons_of_mem _ hx))
    have h2 := h s List.mem_cons_self
    simp only [allPgs, List.flatMap_cons, List.length_append, List.length_cons, Nat.succ_mul] at h1 ⊢
    omega
end Go.Proofs.Ytdgpblhmfkpblaa.Pg
