/- What is yet to be gone through, each number once: a row and a set. -/
import Derived.Test.YtljbdmmidajmdaaPg38
import Derived.Maps.Own
import Derived.Maps.OwnOps
import Derived.Maps.OwnSet
import Derived.Maps.Views
import Derived.Maps.Keyed
import Derived.Lib.SlKeysI
import Derived.Deep.AppendLies
namespace Go.Proofs.Ytljbdmmidajmdaa.Pg
open Go.RowKit Go.Maps

/-- A map that has these numbers, each with 'true'. -/
def SetM (w : World) (mb : Nat) (L : List Int) : Prop :=
  ∃ D : DataW Unit, w.ownsMap Try.prog 3 (plainElem Try.prog 4) mb L.length D ∧ ∀ x : Int, Maps.has D (.int .i64 x) = decide (x ∈ L) ∧ D.atKey (.int .i64 x) (.lit (.bool false)) = .lit (.bool (decide (x ∈ L)))

section
variable {w w' : World} {mb : Nat} {L : List Int} {x : Int}
theorem intKeyed : Keyed Try.prog 3 := int_keyed Try.underlying3
theorem intKey (hx : (Lit.int .i64 x).wf = true) : keyOf Try.prog 3 (.int .i64 x) = some (.int .i64 x) := keyOf_int_mk Try.underlying3 hx
theorem boolZero (w : World) : (zeroValue 4).run Try.prog w = .ok (.bool false) w := by
  obtain ⟨i, hi, hz, -⟩ := info_parts (show (Try.prog.info? 4).map (fun i => (i.zero, i.size, i.bytes)) = some (some (.bool false), 1, 1) by kernel_rfl)
  simp [zeroValue, typeInfo, hi, hz]
theorem SetM.made (w : World) : SetM (w.alloc (.map #[] 0)) w.heap.size [] := ⟨.map [], World.ownsMap_made w _ _ _, fun x => ⟨by simp [Maps.has], by simp [DataW.atKey]⟩⟩
theorem SetM.lt (h : SetM w mb L) : mb < w.heap.size := by obtain ⟨D, h, _⟩ := h; exact h.lt
theorem SetM.same (h : SetM w mb L) (hb : w'.heap[mb]? = w.heap[mb]?) : SetM w' mb L := by
  obtain ⟨D, ⟨es, clock, h1, h2⟩, h3⟩ := h
  exact ⟨D, ⟨es, clock, hb.trans h1, h2⟩, h3⟩
set_option maxRecDepth 100000 in
theorem SetM.look (h : SetM w mb L) (hx : (Lit.int .i64 x).wf = true) : (Instr.lookup 87 (.map (some mb)) (.int .i64 x) false).run Try.prog w = .ok (.bool (decide (x ∈ L))) w := by
  obtain ⟨D, ho, hD⟩ := h
  obtain ⟨v, ps, hr, hv⟩ := ho.lookup intKeyed Try.underlying87 (boolZero w) (plainElem_bool Try.underlying4 false) (intKey hx)
  rw [(hD x).2] at hv
  have : v = .bool (decide (x ∈ L)) := by
    unfold plainElem at hv
    rw [Try.underlying4] at hv
    cases v <;> simp at hv
    rw [hv.1]
  rw [hr, this]
theorem SetM.put (h : SetM w mb L) (hx : (Lit.int .i64 x).wf = true) (hn : x ∉ L) (hl : L.length < maxLen) :
    ∃ w', (Instr.mapUpdate 87 (.map (some mb)) (.int .i64 x) (.bool true)).run Try.prog w = .ok () w' ∧ SetM w' mb (L ++ [x]) ∧ w.grownBy w' (some mb) := by
  obtain ⟨D, ho, hD⟩ := h
  obtain ⟨w', hr, h1, h2⟩ := ho.update intKeyed Try.underlying87 hl (intKey hx) (plainElem_bool Try.underlying4 true)
  refine ⟨w', hr, ⟨_, by rw [List.length_append]; exact h1, fun y => ?_⟩, h2⟩
  by_cases hy : y = x
  · subst hy
    rw [has_put_same ho.isMap (show WideAt.IsKeyLit (.int .i64 y) from trivial), atKey_put_same ho.isMap (show WideAt.IsKeyLit (.int .i64 y) from trivial)]
    simp
  · have hne : (Lit.int .i64 y) ≠ .int .i64 x := fun e => hy (by injection e)
    rw [has_put_other hne, atKey_put_other hne, (hD y).1, (hD y).2]
    simp [hy]
theorem SetM.perm (h : SetM w mb L) (hnd : L.Nodup) : ∃ D : DataW Unit, w.ownsMap Try.prog 3 (plainElem Try.prog 4) mb L.length D ∧ L.Perm (intKeys D) := by
  obtain ⟨D, ho, hD⟩ := h
  refine ⟨D, ho, ?_⟩
  obtain ⟨es, hE, hpw, _⟩ := ho.entries intKeyed
  obtain ⟨es', hE', hko⟩ := ho.keysOf
  obtain rfl : es = es' := by rw [hE] at hE'; simpa using hE'
  subst hE
  exact perm_intKeys hpw (fun p hp => by obtain ⟨v, hv⟩ := hko p hp; obtain ⟨x, _, hx, _⟩ := Maps.keyOf_i64 Try.underlying3 hv; exact ⟨x, hx⟩) hnd (fun x => by rw [(hD x).1]; simp)
end

/-- The row and the set. -/
structure Todo (B : Nat) (w : World) (ob mb : Nat) (L : List Int) : Prop where
  ex : ∃ A n c, w.heap[ob]? = some (.cells #[.slice A n c, .map (some mb)] 89 (0, 0)) ∧ w.ownsRow B 3 1 (.slice A n c) L.length (L.map (.int .i64))
  set : SetM w mb L
  ob_ : B ≤ ob
  mb_ : B ≤ mb
/-- What an adding turns. -/
structure AddFr (B : Nat) (w w' : World) : Prop where
  low : Below B w w'
  size : w.heap.size ≤ w'.heap.size
  keep : ∀ k T, Typ w k T → T ≠ 89 → T ≠ 3 → w'.heap[k]? = w.heap[k]?
section
variable {B : Nat} {w w' w2 : World} {ob mb : Nat} {L : List Int} {x : Int}
theorem AddFr.refl (B : Nat) (w : World) : AddFr B w w := ⟨Below.refl _ _, Nat.le_refl _, fun _ _ _ _ _ => rfl⟩
theorem AddFr.trans (h : AddFr B w w') (g : AddFr B w' w2) : AddFr B w w2 :=
  ⟨h.low.trans g.low, Nat.le_trans h.size g.size, fun k T hT h1 h2 => (g.keep k T (hT.move (h.keep k T hT h1 h2)) h1 h2).trans (h.keep k T hT h1 h2)⟩
theorem AddFr.of_below (hB : B ≤ w.heap.size) (h : Below w.heap.size w w') : AddFr B w w' := ⟨h.mono hB, h.size, fun k _ hT _ _ => h.block k hT.lt⟩
theorem Todo.below (h : Todo B w ob mb L) (hb : Below w.heap.size w w') : Todo B w' ob mb L := by
  obtain ⟨A, n, c, h1, h2⟩ := h.ex
  have hl := (Array.getElem?_eq_some_iff.1 h1).1
  exact ⟨⟨A, n, c, (hb.block _ hl).trans h1, own_move h2 (fun k hk => hb.block k (h2.lt k hk).2)⟩, h.set.same (hb.block _ h.set.lt), h.ob_, h.mb_⟩
/-- One number more, if it is new. -/
def addL (L : List Int) (x : Int) : List Int := if x ∈ L then L else L ++ [x]
theorem addL_old (h : x ∈ L) : addL L x = L := by simp [addL, h]
theorem addL_new (h : x ∉ L) : addL L x = L ++ [x] := by simp [addL, h]

theorem SetM.noTyp (h : SetM w mb L) {T : TypeId} (hT : Typ w mb T) : False := by
  obtain ⟨D, ⟨es, clock, h1, _⟩, _⟩ := h
  obtain ⟨cs, fr, h2⟩ := hT
  rw [h1] at h2
  cases h2
theorem Todo.added {w1 w5 : World} (h : Todo B w ob mb L) (hB : B ≤ w.heap.size) {A : Option Addr} {n c g5 cp5 : Nat} {o : Obj} (h1 : w.heap[ob]? = some (.cells #[.slice A n c, .map (some mb)] 89 (0, 0))) (h2 : w.ownsRow B 3 1 (.slice A n c) L.length (L.map (.int .i64)))
    (hs1 : SetM w1 mb (L ++ [x])) (hg1 : w.grownBy w1 (some mb)) (hown : w5.ownsRow B 3 1 (.slice (some ⟨g5, 0, none⟩) (L.length + 1) cp5) (L.length + 1) (L.map (.int .i64) ++ [.int .i64 x])) (hgrow : (w1.alloc o).grownBy w5 (Value.slice A n c).ownBlock) :
    Todo B (w5.setCell ⟨ob, 0, none⟩ (.slice (some ⟨g5, 0, none⟩) (L.length + 1) cp5)) ob mb (L ++ [x]) ∧ AddFr B w (w5.setCell ⟨ob, 0, none⟩ (.slice (some ⟨g5, 0, none⟩) (L.length + 1) cp5)) := by
  have s1 := hg1.size
  have s2 : w1.heap.size ≤ (w1.alloc o).heap.size := by simp
  have s3 := hgrow.size
  have lmb := h.set.lt
  have lob := (Array.getElem?_eq_some_iff.1 h1).1
  have keep5 : ∀ k, k < w.heap.size → k ≠ mb → some k ≠ (Value.slice A n c).ownBlock → w5.heap[k]? = w.heap[k]? := fun k hk e1 e2 =>
    (hgrow.block k (by omega) e2).trans ((heap_alloc_old w1 o (by omega)).trans (hg1.block k hk (by simpa using e1)))
  have tob := Typ.of h1
  have nrow : ∀ k, (Value.slice A n c).ownBlock = some k → Typ w k 3 ∧ B ≤ k := fun k hk => own_typ h2 hk
  have nmb : ∀ k T, Typ w k T → k ≠ mb := fun k T hT e => (h.set.noTyp (e ▸ hT)).elim
  have hob5 : w5.heap[ob]? = w.heap[ob]? := keep5 ob lob (nmb _ _ tob) (fun e => typ_ne tob (nrow ob e.symm).1 (by decide) rfl)
  have t5 := (own_typ hown (k := g5) rfl).1
  have ng5 : g5 ≠ ob := typ_ne t5 (Typ.of (hob5.trans h1)) (by decide)
  have hmb5 : w5.heap[mb]? = w1.heap[mb]? := by
    refine (hgrow.block mb (by omega) (fun e => ?_)).trans (heap_alloc_old w1 o (by omega))
    exact h.set.noTyp (nrow mb e.symm).1
  have nmo : mb ≠ ob := fun e => nmb _ _ tob e.symm
  refine ⟨⟨⟨_, _, _, (set_at (hob5.trans h1) _).trans rfl, ?_⟩, hs1.same ((set_ne _ nmo).trans hmb5), h.ob_, h.mb_⟩, ⟨?_, ?_, fun k T hT e1 e2 => ?_⟩⟩
  · rw [List.length_append, List.map_append]
    exact own_move hown (fun k hk => by
      obtain rfl : g5 = k := by simpa [Value.ownBlock] using hk
      exact set_ne _ ng5)
  · have b1 : Below B w w1 := (Below.refl B w).grown hg1 hB (fun k hk => by simp at hk; subst hk; exact h.mb_)
    have b2 := b1.alloc (by omega) o
    have b3 : Below B w w5 := b2.grown hgrow (by omega) (fun k hk => (nrow k hk).2)
    exact b3.setCell (p := ⟨ob, 0, none⟩) h.ob_ _
  · simp; omega
  · have hk := hT.lt
    have nk : k ≠ ob := typ_ne hT tob e1
    exact (set_ne _ nk).trans (keep5 k hk (nmb _ _ hT) (fun e => typ_ne hT (nrow k e.symm).1 e2 rfl))

set_option maxHeartbeats 3200000 in
set_option maxRecDepth 100000 in
theorem tadd_c (h : Todo B w ob mb L) (hB : B ≤ w.heap.size) (hx : (Lit.int .i64 x).wf = true) {k : Nat} (hk : w.cell? ⟨k, 0, none⟩ = some (.int .i64 x)) (hl : L.length ≤ 1000000) :
    Calls Try.prog 50 #[.pointer (some ⟨ob, 0, none⟩), .slice (some ⟨k, 0, none⟩) 1 1] w fun e w' => e = .returned (.tuple #[]) ∧ Todo B w' ob mb (addL L x) ∧ AddFr B w w' := by
  obtain ⟨A, n, c, h1, h2⟩ := h.ex
  have c0 := cell_of_row w ob 0 _ _ _ h1
  have c1 := cell_of_row w ob 1 _ _ _ h1
  simp only [List.getElem?_toArray, List.getElem?_cons_zero, List.getElem?_cons_succ] at c0 c1
  have hlook := h.set.look hx
  obtain ⟨i0, hi, hz0, hz1, hz2⟩ := info_parts (show (Try.prog.info? 3).map (fun i => (i.zero, i.size, i.bytes)) = some (some (.int .i64 0), 1, 8) by kernel_rfl)
  have HI := hid hi
  have HX := hid hx
  have H := hid h
  have H1 := hid h1
  have H2 := hid h2
  have HLk := hid hlook
  clear h hx h1 h2 hi hlook
  go_enter Try.func50, Try.ntmps50
  go_wp2_with fail
  go_loopw [8] (fun i wx => (i = .int .i64 0 ∧ wx = w) ∨ (i = .int .i64 1 ∧ Box (Todo B wx ob mb (addL L x)) ∧ Box (AddFr B w wx))) (fun i _ => 1 - (RowKit.intOf i).toNat)
  case atStart => exact .inl ⟨rfl, rfl⟩
  case round =>
    rcases hrel with ⟨rfl, rfl⟩ | ⟨rfl, HT, HA⟩
    · by_cases hxL : x ∈ L
      · have hlook := HLk.out
        have hd : decide (x ∈ L) = true := by simpa using hxL
        rw [hd] at hlook
        have HXL := hid hxL
        clear hxL hd
        go_wp2_with fail
        go_roundw
        case rel => exact .inr ⟨rfl, by rw [addL_old HXL.out]; exact H, hid (AddFr.refl _ _)⟩
        case measure => simp [RowKit.intOf]
      · have hlook := HLk.out
        have hd : decide (x ∈ L) = false := by simpa using hxL
        rw [hd] at hlook
        obtain ⟨w1, hput, hs1, hg1⟩ := H.out.set.put HX.out hxL (by unfold maxLen; omega)
        have HXL := hid hxL
        have nmo : ob ≠ mb := fun e => H.out.set.noTyp (e ▸ Typ.of H1.out)
        have hob1 := (hg1.block ob (Array.getElem?_eq_some_iff.1 H1.out).1 (by simpa using nmo)).trans H1.out
        have d0 := cell_of_row w1 ob 0 _ _ _ hob1
        have d1 := cell_of_row w1 ob 1 _ _ _ hob1
        simp only [List.getElem?_toArray, List.getElem?_cons_zero, List.getElem?_cons_succ] at d0 d1
        have HOwn := hid ((own_move H2.out (fun k hk => hg1.block k (H2.out.lt k hk).2 (fun e => by
          obtain rfl : k = mb := by simpa using e
          exact H.out.set.noTyp (own_typ H2.out hk).1))).alloc (.cells #[.int .i64 x] 3))
        have HNews := hid (World.news_of_block (heap_alloc_new w1 (.cells #[.int .i64 x] 3)))
        have hsz1 := hg1.size
        have HS1 := hid hs1
        have HG1 := hid hg1
        have HOb1 := hid hob1
        have hsz2 : B ≤ (w1.alloc (.cells #[.int .i64 x] 3)).heap.size := by simp; omega
        clear hxL hd hs1 hg1 hob1 nmo
        go_wp2_with (at_builtin; refine wpList_append_lies _ rfl _ _ 45 rfl B 3 i0 (.int .i64 0) 1 8 Try.underlying45 HI.out hz0 hz1 hz2 rfl (by decide) (.slice A n c) L.length (L.map (.int .i64)) ?c1 HOwn.out ⟨w1.heap.size, 0, none⟩ 1 1 [.int .i64 x] ?c2 rfl ?c3 ?c4 (by decide) ?c5 ?c6 hsz2 _ rfl ?_; (case c1 => rfl); (case c2 => rfl); (case c3 => exact HNews.out); (case c4 => simp [Value.oneCell']); (case c5 => unfold maxLen; omega); (case c6 => omega); intro g5 cp5 w5 hown hgrow hat hlt; have hE := H.out.added hB H1.out H2.out HS1.out HG1.out hown hgrow; have hob5 := (hgrow.block ob (by simp; have := (Array.getElem?_eq_some_iff.1 H1.out).1; omega) (fun e => typ_ne (Typ.of H1.out) (own_typ H2.out e.symm).1 (by decide) rfl)).trans ((heap_alloc_old w1 _ (by have := (Array.getElem?_eq_some_iff.1 H1.out).1; omega)).trans HOb1.out); have k0 := cell_of_row w5 ob 0 _ _ _ hob5; have kf := frozen_of_row w5 ob 0 _ _ hob5; have HE := hid hE; clear hown hgrow hat hlt hE hob5 d0 d1)
        go_roundw
        case rel => exact .inr ⟨rfl, by rw [addL_new HXL.out]; exact hid HE.out.1, hid HE.out.2⟩
        case measure => simp [RowKit.intOf]
    · go_wp2_with fail
      exact bodyPost_end (results_none rfl _ _ _) rfl ⟨rfl, HT.out, HA.out⟩
end
end Go.Proofs.Ytljbdmmidajmdaa.Pg
