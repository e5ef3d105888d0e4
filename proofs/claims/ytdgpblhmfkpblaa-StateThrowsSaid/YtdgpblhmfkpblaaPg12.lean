/- Contract of Mark. -/
import Derived.Test.YtdgpblhmfkpblaaPg11
import Derived.LoopTactic
import Derived.IntWalk
namespace Go.Proofs.Ytdgpblhmfkpblaa.Pg
open Go.RowKit

/-- Each of these pages is shared once more. -/
def bump (f : Nat → Option PgD) (ps : List Nat) : Nat → Option PgD := fun x => (f x).map fun P => { P with sh := P.sh + (ps.count x : Nat) }
theorem bump_nil (f : Nat → Option PgD) : bump f [] = f := by
  funext x
  unfold bump
  cases f x <;> simp
theorem bump_snoc {f : Nat → Option PgD} {p : Nat} {P : PgD} (ps : List Nat) (hP : f p = some P) : bump f (ps ++ [p]) = upd (bump f ps) p { P with sh := P.sh + (ps.count p : Nat) + 1 } := by
  funext x
  by_cases hx : x = p
  · subst hx
    rw [upd_same]
    unfold bump
    rw [hP]
    simp [Int.add_assoc]
  · rw [upd_ne _ _ hx]
    unfold bump
    rw [List.count_append, List.count_singleton]
    simp [Ne.symm hx]
theorem bump_at {f : Nat → Option PgD} {p : Nat} {P : PgD} (ps : List Nat) (hP : f p = some P) : bump f ps p = some { P with sh := P.sh + (ps.count p : Nat) } := by
  unfold bump; rw [hP]; rfl

section
variable {B : Bd} {w : World} {D : FD} {b : Nat} {K : BkD}

/-- One more book, in new memory. -/
theorem Fam.addBook (h : Fam B w D) {v : Value} {ps : List Nat} (n : Nat) (hB : B ≤ w.heap.size) (ho : w.ownsRow B 167 1 v ps.length (ps.map ptr))
    (hnew : ∀ k P g, D.bk k = some P → P.sl.ownBlock = some g → v.ownBlock ≠ some g) :
    Fam B (w.alloc (.cells #[ptr D.fam, v, .int .i64 n, .bool false] 171)) { D with bk := upd D.bk w.heap.size { sl := v, pgs := ps, n := n, gone := false } } ∧
      (∀ k, Foot { D with bk := upd D.bk w.heap.size { sl := v, pgs := ps, n := n, gone := false } } k → Foot D k ∨ k = w.heap.size ∨ v.ownBlock = some k) := by
  have hb : Below w.heap.size w (w.alloc (.cells #[ptr D.fam, v, .int .i64 n, .bool false] 171)) := (Below.refl _ _).alloc (Nat.le_refl _) _
  have h' := h.below hb
  refine ⟨⟨h.base, h'.fam, h'.pg, fun k X hX => ?_, h.pgInj, ?_, h'.fresh⟩, ?_⟩
  · rcases upd_cases hX with ⟨rfl, rfl⟩ | ⟨hk, hX⟩
    · exact ⟨hB, heap_alloc_new w _, own_move ho (fun g hg => hb.block g (own_typ ho hg).1.lt)⟩
    · exact h'.bk k X hX
  · intro k k' X X' g hX hX' hg hg'
    rcases upd_cases hX with ⟨rfl, rfl⟩ | ⟨hk, hX⟩ <;> rcases upd_cases hX' with ⟨rfl, rfl⟩ | ⟨hk', hX'⟩
    · rfl
    · exact absurd hg (hnew k' X' g hX' hg')
    · exact absurd hg' (hnew k X g hX hg)
    · exact h.bkInj k k' X X' g hX hX' hg hg'
  · intro k hk
    rcases hk with rfl | ⟨X, hX⟩ | ⟨X, hX⟩ | ⟨q, X, hX, hg⟩ | ⟨q, X, hX, hg⟩
    · exact .inl (.inl rfl)
    · exact .inl (.inr (.inl ⟨X, hX⟩))
    · rcases upd_cases hX with ⟨hk, _⟩ | ⟨_, hX⟩
      · exact .inr (.inl hk)
      · exact .inl (.inr (.inr (.inl ⟨X, hX⟩)))
    · exact .inl (.inr (.inr (.inr (.inl ⟨q, X, hX, hg⟩))))
    · rcases upd_cases hX with ⟨_, rfl⟩ | ⟨_, hX⟩
      · exact .inr (.inr hg)
      · exact .inl (.inr (.inr (.inr (.inr ⟨q, X, hX, hg⟩))))

set_option maxHeartbeats 400000 in
set_option maxRecDepth 100000 in
theorem mark_nil (w : World) : Calls Try.prog 105 #[.pointer none] w fun e w' => e = .returned (.pointer none) ∧ w' = w := by
  go_enter Try.func105, Try.ntmps105
  go_wp2_with fail
  go_ret
  exact ⟨rfl, rfl⟩
set_option maxHeartbeats 400000 in
set_option maxRecDepth 100000 in
theorem mark_gone (h : Fam B w D) (hK : D.bk b = some K) (hg : K.gone = true) : Calls Try.prog 105 #[ptr b] w fun e w' => e = .returned (.pointer none) ∧ w' = w := by
  obtain ⟨_, _, _, c3, _⟩ := (h.bk b K hK).reads
  rw [hg] at c3
  clear h hK hg
  unfold ptr
  go_enter Try.func105, Try.ntmps105
  go_wp2_with fail
  go_ret
  exact ⟨rfl, rfl⟩

/-- A book more, with a book's pages. -/
def marked (D : FD) (K : BkD) (b' : Nat) (v : Value) : FD := { D with pg := bump D.pg K.pgs, bk := upd D.bk b' { sl := v, pgs := K.pgs, n := K.n, gone := false } }
/-- The first of a book's pages are shared once more. -/
def bumped (D : FD) (K : BkD) (k : Nat) : FD := { D with pg := bump D.pg (K.pgs.take k) }

theorem Fam.toBump {K : BkD} {k p : Nat} {P : PgD} {w1 : World} (h1 : Fam B w1 (bumped D K k)) (g1 : Goes B w D w1 (bumped D K k)) (hp : K.pgs[k]? = some p) (hP : D.pg p = some P) :
    Fam B (w1.setCell ⟨p, 1, none⟩ (.int .i64 (P.sh + ((K.pgs.take k).count p : Nat) + 1))) (bumped D K (k + 1)) ∧ Goes B w D (w1.setCell ⟨p, 1, none⟩ (.int .i64 (P.sh + ((K.pgs.take k).count p : Nat) + 1))) (bumped D K (k + 1)) := by
  have hA := h1.setShares (p := p) (bump_at _ hP) (P.sh + ((K.pgs.take k).count p : Nat) + 1)
  have e : bumped D K (k + 1) = { bumped D K k with pg := upd (bumped D K k).pg p { P with sh := P.sh + ((K.pgs.take k).count p : Nat) + 1 } } := by
    unfold bumped
    rw [List.take_add_one, hp]
    show FD.mk _ _ _ _ = _
    rw [show (some p).toList = [p] from rfl, bump_snoc _ hP]
  rw [e]
  exact ⟨hA.1, g1.trans hA.2⟩
end
end Go.Proofs.Ytdgpblhmfkpblaa.Pg
