/- Contract of Drop. -/
import Derived.Test.YtljbdmmidajmdaaPg13
namespace Go.Proofs.Ytljbdmmidajmdaa.Pg
open Go.RowKit

/-- Each of these pages is shared once less. -/
def fall (f : Nat → Option PgD) (ps : List Nat) : Nat → Option PgD := fun x => (f x).map fun P => { P with sh := P.sh - (ps.count x : Nat) }
/-- A page that no other one has. -/
def lone (f : Nat → Option PgD) (p : Nat) : Bool := match f p with | some P => P.sh == 1 | none => false
theorem fall_nil (f : Nat → Option PgD) : fall f [] = f := by
  funext x
  unfold fall
  cases f x <;> simp
theorem fall_not {f : Nat → Option PgD} {p : Nat} {ps : List Nat} (h : p ∉ ps) : fall f ps p = f p := by
  unfold fall
  rw [List.count_eq_zero.2 h]
  cases f p <;> simp
theorem fall_snoc {f : Nat → Option PgD} {p : Nat} {P : PgD} {ps : List Nat} (h : p ∉ ps) (hP : f p = some P) : fall f (ps ++ [p]) = upd (fall f ps) p { P with sh := P.sh - 1 } := by
  funext x
  by_cases hx : x = p
  · subst hx
    rw [upd_same]
    unfold fall
    rw [hP, List.count_append, List.count_eq_zero.2 h]
    simp
  · rw [upd_ne _ _ hx]
    unfold fall
    rw [List.count_append, List.count_singleton]
    simp [Ne.symm hx]

/-- The first of a book's pages are shared once less. -/
def felled (D : FD) (K : BkD) (k : Nat) : FD := { D with live := D.live - (((K.pgs.take k).countP (lone D.pg) : Nat) : Int), pg := fall D.pg (K.pgs.take k) }
/-- A book is gone. -/
def dropped (D : FD) (b : Nat) (K : BkD) : FD :=
  { D with live := D.live - ((K.pgs.countP (lone D.pg) : Nat) : Int), pg := fall D.pg K.pgs, bk := upd D.bk b { sl := .slice none 0 0, pgs := [], n := 0, gone := true } }

section
variable {B : Nat} {w : World} {D : FD} {b : Nat} {K : BkD}

theorem not_before {ps : List Nat} {k p : Nat} (hn : ps.Nodup) (hp : ps[k]? = some p) : p ∉ ps.take k := by
  intro hm
  obtain ⟨j, hj⟩ := List.getElem?_of_mem hm
  rw [List.getElem?_take] at hj
  split at hj
  · rename_i hlt
    obtain ⟨h1, e1⟩ := List.getElem?_eq_some_iff.1 hp
    obtain ⟨h2, e2⟩ := List.getElem?_eq_some_iff.1 hj
    have := (List.getElem_inj hn (i := j) (j := k)).1 (e2.trans e1.symm)
    omega
  · simp at hj

theorem Fam.fell_more {k p : Nat} {P : PgD} {w1 : World} (h1 : Fam B w1 (felled D K k)) (g1 : Goes B w D w1 (felled D K k)) (hn : K.pgs.Nodup) (hp : K.pgs[k]? = some p) (hP : D.pg p = some P) (hs : P.sh ≠ 1) :
    Fam B (w1.setCell ⟨p, 1, none⟩ (.int .i64 (P.sh - 1))) (felled D K (k + 1)) ∧ Goes B w D (w1.setCell ⟨p, 1, none⟩ (.int .i64 (P.sh - 1))) (felled D K (k + 1)) := by
  have hb := not_before hn hp
  have hA := h1.setShares (p := p) ((fall_not hb).trans hP) (P.sh - 1)
  have e : felled D K (k + 1) = { felled D K k with pg := upd (felled D K k).pg p { P with sh := P.sh - 1 } } := by
    unfold felled
    rw [List.take_add_one, hp]
    show FD.mk _ _ _ _ = _
    rw [show (some p).toList = [p] from rfl, fall_snoc hb hP, List.countP_append]
    simp [lone, hP, hs]
  rw [e]
  exact ⟨hA.1, g1.trans hA.2⟩
theorem Fam.fell_last {k p : Nat} {P : PgD} {w1 : World} (h1 : Fam B w1 (felled D K k)) (g1 : Goes B w D w1 (felled D K k)) (hn : K.pgs.Nodup) (hp : K.pgs[k]? = some p) (hP : D.pg p = some P) (hs : P.sh = 1) :
    Fam B ((w1.setCell ⟨p, 1, none⟩ (.int .i64 (P.sh - 1))).setCell ⟨D.fam, 0, none⟩ (.int .i64 ((felled D K k).live - 1))) (felled D K (k + 1)) ∧
      Goes B w D ((w1.setCell ⟨p, 1, none⟩ (.int .i64 (P.sh - 1))).setCell ⟨D.fam, 0, none⟩ (.int .i64 ((felled D K k).live - 1))) (felled D K (k + 1)) := by
  have hb := not_before hn hp
  have hA := h1.setShares (p := p) ((fall_not hb).trans hP) (P.sh - 1)
  have hC := hA.1.setLive ((felled D K k).live - 1)
  have e : felled D K (k + 1) = { felled D K k with live := (felled D K k).live - 1, pg := upd (felled D K k).pg p { P with sh := P.sh - 1 } } := by
    unfold felled
    rw [List.take_add_one, hp]
    show FD.mk _ _ _ _ = _
    rw [show (some p).toList = [p] from rfl, fall_snoc hb hP, List.countP_append]
    simp [lone, hP, hs]
    omega
  rw [e]
  exact ⟨hC.1, (g1.trans hA.2).trans hC.2⟩
/-- A book that is there becomes one that is gone. -/
theorem Fam.toGone {D : FD} {w : World} {b : Nat} {K : BkD} (h : Fam B w D) (hK : D.bk b = some K) :
    Fam B (((w.setCell ⟨b, 1, none⟩ (.slice none 0 0)).setCell ⟨b, 2, none⟩ (.int .i64 0)).setCell ⟨b, 3, none⟩ (.bool true)) { D with bk := upd D.bk b { sl := .slice none 0 0, pgs := [], n := 0, gone := true } } ∧
      Goes B w D (((w.setCell ⟨b, 1, none⟩ (.slice none 0 0)).setCell ⟨b, 2, none⟩ (.int .i64 0)).setCell ⟨b, 3, none⟩ (.bool true)) { D with bk := upd D.bk b { sl := .slice none 0 0, pgs := [], n := 0, gone := true } } := by
  obtain ⟨h1, h2, h3⟩ := h.bk b K hK
  have t := h.tBk hK
  have hfr : Fr B w (((w.setCell ⟨b, 1, none⟩ (.slice none 0 0)).setCell ⟨b, 2, none⟩ (.int .i64 0)).setCell ⟨b, 3, none⟩ (.bool true)) :=
    ((Fr.set (p := ⟨b, 1, none⟩) _ t (by decide) (by decide) h1).trans (Fr.set (p := ⟨b, 2, none⟩) _ (t.set _ _) (by decide) (by decide) h1)).trans (Fr.set (p := ⟨b, 3, none⟩) _ ((t.set _ _).set _ _) (by decide) (by decide) h1)
  have hne : ∀ k, k ≠ b → (((w.setCell ⟨b, 1, none⟩ (.slice none 0 0)).setCell ⟨b, 2, none⟩ (.int .i64 0)).setCell ⟨b, 3, none⟩ (.bool true)).heap[k]? = w.heap[k]? := fun k hk => ((set_ne _ hk).trans (set_ne _ hk)).trans (set_ne _ hk)
  refine ⟨h.bkUpd hK hfr (fun k _ hk _ => hne k hk) ⟨h1, (set_at (set_at (set_at h2 _) _) _).trans rfl, ⟨rfl, .inl ⟨rfl, rfl⟩⟩⟩ ?_, hfr, fun k hk hn => hne k (fun e => hn (.inr (.inr (.inl ⟨K, by rw [e]; exact hK⟩)))), fun k hk => .inl ?_⟩
  · exact fun k X g _ _ _ e => by simp [Value.ownBlock] at e
  · exact (foot_bkUpd hK hk).elim id (fun e => by simp [Value.ownBlock] at e)

set_option maxHeartbeats 400000 in
set_option maxRecDepth 100000 in
theorem drop_nil (w : World) : Calls Try.prog 25 #[.pointer none] w fun e w' => e = .returned (.tuple #[]) ∧ w' = w := by
  go_enter Try.func25, Try.ntmps25
  go_wp2_with fail
  refine bodyPost_ret (results_none rfl _ _ _) rfl ?_
  exact ⟨rfl, rfl⟩
set_option maxHeartbeats 400000 in
set_option maxRecDepth 100000 in
theorem drop_gone (h : Fam B w D) (hK : D.bk b = some K) (hg : K.gone = true) : Calls Try.prog 25 #[ptr b] w fun e w' => e = .returned (.tuple #[]) ∧ w' = w := by
  obtain ⟨_, _, _, c3, _⟩ := (h.bk b K hK).reads
  rw [hg] at c3
  clear h hK hg
  unfold ptr
  go_enter Try.func25, Try.ntmps25
  go_wp2_with fail
  refine bodyPost_ret (results_none rfl _ _ _) rfl ?_
  exact ⟨rfl, rfl⟩
end
end Go.Proofs.Ytljbdmmidajmdaa.Pg
