/- A frame turns; a value more; a frame less; a status. -/
import Derived.Test.YtdgpblhmfkpblaaSt9
namespace Go.Proofs.Ytdgpblhmfkpblaa.Pg
open Go.RowKit

theorem flatten_set {sz : Nat} : ∀ {rows : List (List Value)} {j k : Nat} {c : List Value} (u : Value), (∀ c ∈ rows, c.length = sz) → rows[j]? = some c → k < sz → rows.flatten.set (j * sz + k) u = (rows.set j (c.set k u)).flatten
  | [], _, _, _, _, _, hc, _ => by simp at hc
  | r :: rows, 0, k, c, u, h, hc, hk => by
    obtain rfl : r = c := by simpa using hc
    have := h r (by simp)
    rw [List.flatten_cons, List.set_append_left _ _ (by omega), List.set_cons_zero, List.flatten_cons, Nat.zero_mul, Nat.zero_add]
  | r :: rows, j + 1, k, c, u, h, hc, hk => by
    have hr := h r (by simp)
    have := flatten_set (k := k) u (fun c hc => h c (by simp [hc])) (by simpa using hc : rows[j]? = some c) hk
    rw [List.flatten_cons, List.set_append_right _ _ (by rw [hr, Nat.add_mul]; omega), List.set_cons_succ, List.flatten_cons, hr, show (j + 1) * sz + k - sz = j * sz + k by rw [Nat.add_mul]; omega, this]
theorem flatten_take {sz : Nat} : ∀ {rows : List (List Value)} (n : Nat), (∀ c ∈ rows, c.length = sz) → rows.flatten.take (n * sz) = (rows.take n).flatten
  | [], n, _ => by simp
  | r :: rows, 0, _ => by simp
  | r :: rows, n + 1, h => by
    have hr := h r (by simp)
    have := flatten_take n (fun c hc => h c (by simp [hc]) : ∀ c ∈ rows, c.length = sz)
    rw [List.flatten_cons, List.take_succ_cons, List.flatten_cons, List.take_append, hr, show (n + 1) * sz - sz = n * sz by rw [Nat.add_mul]; omega, this, List.take_of_length_le (by rw [hr, Nat.add_mul]; omega)]

section
variable {B B' : Bd} {w w' w1 : World} {T sz : Nat} {v : Value} {rows : List (List Value)} {G G' : SG} {P P' : PS} {D D' : FD} {hs : List Nat} {L : List (Option (List CD))} {i : Nat}
theorem xr_cellSet {g cap n j k : Nat} (h : XRow B w T sz (.slice (some ⟨g, 0, none⟩) n cap) rows) {c : List Value} (hc : rows[j]? = some c) (hk : k < sz) (u : Value) :
    XRow B (w.setCell ⟨g, j * sz + k, none⟩ u) T sz (.slice (some ⟨g, 0, none⟩) n cap) (rows.set j (c.set k u)) := by
  obtain ⟨A, cap', e⟩ := h.slice
  injection e with e1 e2 e3
  subst e1 e2 e3
  have hl : (rows.set j (c.set k u)).length = rows.length := List.length_set
  refine ⟨?_, h.X, ?_⟩
  · rw [← flatten_set u h.sz hc hk, hl]
    exact (h.own.stored _ u).1
  · intro c' hc'
    rcases List.mem_or_eq_of_mem_set hc' with hc' | rfl
    · exact h.sz c' hc'
    · rw [List.length_set]; exact h.sz c (List.mem_of_getElem? hc)
theorem xr_frozen {g cap n : Nat} (h : XRow B w T sz (.slice (some ⟨g, 0, none⟩) n cap) rows) (j : Nat) : w.frozen? ⟨g, j, none⟩ = false := by
  obtain ⟨A, cap', e⟩ := h.slice
  injection e with e1 e2 e3
  subst e1 e2 e3
  exact h.own.frozenAt j
theorem xr_cell {g cap n j k : Nat} (h : XRow B w T sz (.slice (some ⟨g, 0, none⟩) n cap) rows) {c : List Value} (hc : rows[j]? = some c) {u : Value} (hk : c[k]? = some u) : w.cell? ⟨g, j * sz + k, none⟩ = some u := by
  obtain ⟨A, cap', e⟩ := h.slice
  injection e with e1 e2 e3
  subst e1 e2 e3
  have hj := (List.getElem?_eq_some_iff.1 hc).1
  have hk' := (List.getElem?_eq_some_iff.1 hk).1
  rw [h.sz c (List.mem_of_getElem? hc)] at hk'
  rw [h.own.cellAt _ (by have := Nat.mul_le_mul_right sz (show j + 1 ≤ rows.length by omega); rw [Nat.add_mul] at this; omega)]
  exact flat_get rows h.sz j c k u hc hk
theorem xr_take {g cap n : Nat} (h : XRow B w T sz (.slice (some ⟨g, 0, none⟩) n cap) rows) {m : Nat} (hm : m ≤ n) : XRow B w T sz (.slice (some ⟨g, 0, none⟩) m cap) (rows.take m) := by
  obtain ⟨A, cap', e⟩ := h.slice
  injection e with e1 e2 e3
  subst e1 e2 e3
  have hl : (rows.take m).length = m := by rw [List.length_take]; omega
  have hs : ∀ c ∈ rows.take m, c.length = sz := fun c hc => h.sz c (List.mem_of_mem_take hc)
  refine ⟨?_, h.X, hs⟩
  rw [hl]
  rcases h.own.2 with ⟨e, _⟩ | ⟨g', cap', cur, e, hb, hg, h1, h2, h3, h4⟩
  · cases e
  · injection e with e1 e2 e3
    injection e1 with e1
    injection e1 with e1
    subst e1 e3
    refine ⟨by rw [flat_length _ hs, hl], .inr ⟨g, cap, cur, rfl, hb, hg, by omega, h2, h3, ?_⟩⟩
    rw [← flatten_take m h.sz, ← h4, List.take_take, Nat.min_eq_left (Nat.mul_le_mul_right _ hm)]

/-- A frame turns: its row in the frames' block, and what it holds. -/
theorem Sta.setFrame (h : Sta B w D hs L i G P) {j : Nat} {F' : FrD} {c c' : List Value} (hc : G.rows[j]? = some c) (hE : Ext B B' w.heap.size) (hX : ∀ k, B'.X k → k < w'.heap.size) (hf : Fr B w w')
    (hkeep : ∀ k, k < w.heap.size → G.fsl.ownBlock ≠ some k → (valsOf c).ownBlock ≠ some k → w'.heap[k]? = w.heap[k]?) (hown : XRow B' w' 50 9 G.fsl (G.rows.set j c')) (hF' : FrX B' w' F' c')
    (hnew : ∀ k, (valsOf c').ownBlock = some k → (valsOf c).ownBlock = some k ∨ w.heap.size ≤ k) :
    Sta B' w' D hs L i { G with rows := G.rows.set j c' } { P with frames := P.frames.set j F' } ∧ SMv B w D G B' w' D { G with rows := G.rows.set j c' } := by
  have hj := (List.getElem?_eq_some_iff.1 hc).1
  obtain ⟨_, F, _, _, hFc⟩ := h.ok.rowAt (List.mem_of_getElem? hc)
  have hcv : ∀ k, (valsOf c).ownBlock = some k → Typ w k 33 := fun k hk => (hFc.vals.typ hk).1
  have hat : w'.heap[G.at_]? = w.heap[G.at_]? := hkeep _ (h.ok.foot_lt (.inl rfl)).1 (fun e => absurd ((h.ok.fr.typ e).1.uniq (Typ.of h.ok.cell)) (by decide)) (fun e => absurd ((hcv _ e).uniq (Typ.of h.ok.cell)) (by decide))
  have hval : ∀ (j' : Nat) (c1 : List Value), j' ≠ j → G.rows[j']? = some c1 → ∀ k, (valsOf c1).ownBlock = some k → w'.heap[k]? = w.heap[k]? := fun j' c1 hne hc1 k hk => by
    obtain ⟨_, F1, _, _, hF1⟩ := h.ok.rowAt (List.mem_of_getElem? hc1)
    have t := (hF1.vals.typ hk).1
    exact hkeep k t.lt (fun e => absurd (t.uniq (h.ok.fr.typ e).1) (by decide)) (fun e => hne (h.ok.inj j' j c1 c k hc1 hc hk e))
  have hjob : ∀ k, G.jsl.ownBlock = some k → w'.heap[k]? = w.heap[k]? := fun k hk => by
    have t := (h.ok.jobs.typ hk).1
    exact hkeep k t.lt (fun e => absurd (t.uniq (h.ok.fr.typ e).1) (by decide)) (fun e => absurd (t.uniq (hcv k e)) (by decide))
  have hout : ∀ k, G.osl.ownBlock = some k → w'.heap[k]? = w.heap[k]? := fun k hk => by
    have t := (h.ok.outs.typ hk).1
    exact hkeep k t.lt (fun e => absurd (t.uniq (h.ok.fr.typ e).1) (by decide)) (fun e => absurd (t.uniq (hcv k e)) (by decide))
  have old : ∀ (j' : Nat) (c1 : List Value) (k : Nat), (G.rows.set j c')[j']? = some c1 → (valsOf c1).ownBlock = some k → w.heap.size ≤ k ∧ j' = j ∨ ∃ c2, G.rows[j']? = some c2 ∧ (valsOf c2).ownBlock = some k := fun j' c1 k hc1 hk => by
    rw [List.getElem?_set] at hc1
    split at hc1
    · rename_i e
      obtain rfl := Option.some.inj hc1
      exact (hnew k hk).elim (fun e' => .inr ⟨c, by rw [← e]; exact hc, e'⟩) (fun e' => .inl ⟨e', e.symm⟩)
    · exact .inr ⟨c1, hc1, hk⟩
  have lt2 : ∀ (j' : Nat) (c2 : List Value) (k : Nat), G.rows[j']? = some c2 → (valsOf c2).ownBlock = some k → k < w.heap.size := fun j' c2 k hc2 hk => by
    obtain ⟨_, F1, _, _, hF1⟩ := h.ok.rowAt (List.mem_of_getElem? hc2)
    exact (hF1.vals.typ hk).1.lt
  refine h.turn hE hf ?_ hX ?_ rfl rfl rfl rfl ?_
  · exact fun k hk hs => hkeep k hk (fun e => hs (.inr (.inl e))) (fun e => hs (.inr (.inr (.inl ⟨c, List.mem_of_getElem? hc, e⟩))))
  · refine ⟨by rw [hE.hn]; exact h.ok.base, ?_, hown, ?_, ?_, ?_, h.ok.jobs.keep hE hjob, h.ok.outs.keep hE hout⟩
    · exact hat.trans h.ok.cell
    · simp [h.ok.len]
    · intro j' F1 c1 hF1 hc1
      simp only at hF1 hc1
      rw [List.getElem?_set] at hF1 hc1
      split at hc1
      · rename_i e
        rw [if_pos e, if_pos (by rw [← h.ok.len]; exact hj)] at hF1
        obtain rfl := Option.some.inj hF1
        obtain rfl := Option.some.inj hc1
        exact hF'
      · rename_i e
        rw [if_neg e] at hF1
        exact (h.ok.row j' F1 c1 hF1 hc1).keep hE hf (hval j' c1 (fun e' => e e'.symm) hc1)
    · intro j1 j2 c1 c2 k h1 h2 k1 k2
      rcases old j1 c1 k h1 k1 with ⟨hk, e1⟩ | ⟨c1', hc1, hk1⟩ <;> rcases old j2 c2 k h2 k2 with ⟨hk', e2⟩ | ⟨c2', hc2, hk2⟩
      · rw [e1, e2]
      · exact absurd (lt2 _ _ _ hc2 hk2) (by omega)
      · exact absurd (lt2 _ _ _ hc1 hk1) (by omega)
      · exact h.ok.inj j1 j2 c1' c2' k hc1 hc2 hk1 hk2
  · rintro k (rfl | hk | ⟨c1, hc1, hk⟩ | hk | hk)
    · exact .inl (.inl rfl)
    · exact .inl (.inr (.inl hk))
    · obtain ⟨j1, hj1, e⟩ := List.getElem_of_mem hc1
      rcases old j1 c1 k (by rw [← e]; exact List.getElem?_eq_getElem hj1) hk with ⟨h1, _⟩ | ⟨c2, h1, h2⟩
      · exact .inr h1
      · exact .inl (.inr (.inr (.inl ⟨c2, List.mem_of_getElem? h1, h2⟩)))
    · exact .inl (.inr (.inr (.inr (.inl hk))))
    · exact .inl (.inr (.inr (.inr (.inr hk))))
/-- A store into a frame. -/
theorem Sta.frSet (h : Sta B w D hs L i G P) {j k g n cap : Nat} {F' : FrD} {c : List Value} {u : Value} (hg : G.fsl = .slice (some ⟨g, 0, none⟩) n cap) (hc : G.rows[j]? = some c) (hk : k < 9) (hF' : FrX B w F' (c.set k u))
    (hnew : ∀ b, (valsOf (c.set k u)).ownBlock = some b → (valsOf c).ownBlock = some b) :
    Sta B (w.setCell ⟨g, j * 9 + k, none⟩ u) D hs L i { G with rows := G.rows.set j (c.set k u) } { P with frames := P.frames.set j F' } ∧ SMv B w D G B (w.setCell ⟨g, j * 9 + k, none⟩ u) D { G with rows := G.rows.set j (c.set k u) } := by
  have hgo : G.fsl.ownBlock = some g := by rw [hg]; rfl
  have ht := h.ok.fr.typ hgo
  have hf : Fr B w (w.setCell ⟨g, j * 9 + k, none⟩ u) := Fr.setX _ (h.ok.fr.X g hgo) ht.2
  have hr := h.ok.fr
  rw [hg] at hr
  refine h.setFrame hc (Ext.refl _ _) (fun k hk => ?_) hf (fun b _ h1 _ => set_ne _ (fun e => h1 (by rw [e]; exact hgo))) (by rw [hg]; exact xr_cellSet hr hc hk u) (hF'.keep (Ext.refl _ _) hf (fun b hb => set_ne _ (fun e => ?_))) (fun b hb => .inl (hnew b hb))
  · have := h.h.fam.fresh k hk; simpa using this
  · subst e
    exact absurd ((hF'.vals.typ hb).1.uniq ht.1) (by decide)
/-- A value more in a frame. -/
theorem Sta.pushVal (h : Sta B w D hs L i G P) {j g n cap gv nv capv : Nat} {F : FrD} {c : List Value} {x : VD} (hg : G.fsl = .slice (some ⟨g, 0, none⟩) n cap) (hc : G.rows[j]? = some c) (hF : P.frames[j]? = some F) (hn : F.vals.length = nv)
    (ho : w1.ownsRow B 33 3 (.slice (some ⟨gv, 0, none⟩) (nv + 1) capv) (nv + 1) ((F.vals.map VD.row).flatten ++ x.row)) (hgr : w.grownBy w1 (valsOf c).ownBlock) (hgl : (valsOf c).ownBlock = some gv ∨ gv = w.heap.size) (hlt : gv < w1.heap.size) :
    Sta (B.plus gv) (w1.setCell ⟨g, j * 9 + 6, none⟩ (.slice (some ⟨gv, 0, none⟩) (nv + 1) capv)) D hs L i { G with rows := G.rows.set j (c.set 6 (.slice (some ⟨gv, 0, none⟩) (nv + 1) capv)) } { P with frames := P.frames.set j { F with vals := F.vals ++ [x] } } ∧
      SMv B w D G (B.plus gv) (w1.setCell ⟨g, j * 9 + 6, none⟩ (.slice (some ⟨gv, 0, none⟩) (nv + 1) capv)) D { G with rows := G.rows.set j (c.set 6 (.slice (some ⟨gv, 0, none⟩) (nv + 1) capv)) } := by
  have hgo : G.fsl.ownBlock = some g := by rw [hg]; rfl
  have ht := h.ok.fr.typ hgo
  have hX := h.ok.row j F c hF hc
  have hne : (valsOf c).ownBlock ≠ some g := fun e => absurd ((hX.vals.typ e).1.uniq ht.1) (by decide)
  have hg1 : w1.heap[g]? = w.heap[g]? := hgr.block _ ht.1.lt (fun e => hne e.symm)
  have hE : Ext B (B.plus gv) w.heap.size := Ext.plusOr (hgl.imp (hX.vals.X gv) (fun e => by omega))
  have hf1 : Fr B w w1 := fr_grownX hX.vals.own (Nat.le_refl _) hX.vals.X hgr
  have hf : Fr B w (w1.setCell ⟨g, j * 9 + 6, none⟩ (.slice (some ⟨gv, 0, none⟩) (nv + 1) capv)) := hf1.trans (Fr.setX _ (h.ok.fr.X g hgo) ht.2)
  have hr := h.ok.fr.keep (B' := B.plus gv) (w' := w1) hE (fun k hk => hgr.block _ (h.ok.fr.typ hk).1.lt (fun e => by rw [hgo] at hk; injection hk with hk; exact hne (by rw [hk]; exact e.symm)))
  rw [hg] at hr
  have hgg : gv ≠ g := fun e => absurd ((own_typ ho (k := gv) rfl).1.uniq (by rw [e]; exact ht.1.move hg1)) (by decide)
  refine h.setFrame hc hE ?_ hf ?_ (by rw [hg]; exact xr_cellSet hr hc (by decide) _) ?_ ?_
  · rintro k (hk | rfl)
    · have := h.h.fam.fresh k hk
      have := hgr.size
      simp; omega
    · simpa using hlt
  · exact fun k hk h1 h2 => (set_ne _ (fun e => h1 (by rw [e]; exact hgo))).trans (hgr.block k hk (fun e => h2 e.symm))
  · obtain ⟨v, t, e, hv, ht'⟩ := hX
    refine ⟨.slice (some ⟨gv, 0, none⟩) (nv + 1) capv, t, by rw [e]; rfl, ⟨?_, ?_, VD.row_len⟩, (ht'.raise hE (Nat.le_refl _)).move (hf.raise hE)⟩
    · refine own_base (own_move (w := w1) ?_ (fun k hk => set_ne _ (fun e => ?_))) hE.hn.symm
      · simp only [List.map_append, List.map_cons, List.map_nil, List.length_append, List.length_map, List.length_cons, List.length_nil, List.flatten_append, List.flatten_cons, List.flatten_nil, List.append_nil, hn]; exact ho
      · have hk' : gv = k := by simpa [Value.ownBlock] using hk
        exact hgg (hk'.trans e)
    · exact fun k hk => .inr (by simpa [Value.ownBlock] using hk.symm)
  · intro k hk
    have hv : valsOf (c.set 6 (.slice (some ⟨gv, 0, none⟩) (nv + 1) capv)) = .slice (some ⟨gv, 0, none⟩) (nv + 1) capv := by
      obtain ⟨v, t, e, _⟩ := hX
      rw [e]; rfl
    rw [hv] at hk
    have hk' : gv = k := by simpa [Value.ownBlock] using hk
    subst hk'
    exact hgl.imp id (fun e => by omega)
/-- A status. -/
theorem Sta.setStatus (h : Sta B w D hs L i G P) (x : Int) : Sta B (w.setCell ⟨G.at_, 1, none⟩ (.int .i64 x)) D hs L i G { P with status := x } ∧ SMv B w D G B (w.setCell ⟨G.at_, 1, none⟩ (.int .i64 x)) D G := by
  have hf : Fr B w (w.setCell ⟨G.at_, 1, none⟩ (.int .i64 x)) := Fr.set (T := 55) _ (Typ.of h.ok.cell) (by decide) (by decide) h.ok.base
  have hother : ∀ k, k ≠ G.at_ → (w.setCell ⟨G.at_, 1, none⟩ (.int .i64 x)).heap[k]? = w.heap[k]? := fun k h1 => set_ne _ h1
  have hne : ∀ {k T}, Typ w k T → (T == 55) = false → k ≠ G.at_ := fun t hT e => by rw [e] at t; rw [t.uniq (Typ.of h.ok.cell)] at hT; cases hT
  refine h.turn (Ext.refl _ _) hf (fun k _ hs => hother k (fun e => hs (.inl e))) (fun k hk => ?_) ?_ rfl rfl rfl rfl (fun _ h => .inl h)
  · have := h.h.fam.fresh k hk; simpa using this
  · refine ⟨h.ok.base, ?_, h.ok.fr.keep (Ext.refl _ w.heap.size) (fun k hk => hother k (hne (h.ok.fr.typ hk).1 rfl)), h.ok.len, fun j F c hF hc => (h.ok.row j F c hF hc).keep (Ext.refl _ _) hf (fun k hk => hother k (hne ((h.ok.row j F c hF hc).vals.typ hk).1 rfl)), h.ok.inj,
      h.ok.jobs.keep (Ext.refl _ w.heap.size) (fun k hk => hother k (hne (h.ok.jobs.typ hk).1 rfl)), h.ok.outs.keep (Ext.refl _ w.heap.size) (fun k hk => hother k (hne (h.ok.outs.typ hk).1 rfl))⟩
    rw [set_at h.ok.cell]; rfl
/-- Frames less. -/
theorem Sta.popFrame (h : Sta B w D hs L i G P) {g n cap m : Nat} (hg : G.fsl = .slice (some ⟨g, 0, none⟩) n cap) (hm : m ≤ n) :
    Sta B (w.setCell ⟨G.at_, 5, none⟩ (.slice (some ⟨g, 0, none⟩) m cap)) D hs L i { G with fsl := .slice (some ⟨g, 0, none⟩) m cap, rows := G.rows.take m } { P with frames := P.frames.take m } ∧
      SMv B w D G B (w.setCell ⟨G.at_, 5, none⟩ (.slice (some ⟨g, 0, none⟩) m cap)) D { G with fsl := .slice (some ⟨g, 0, none⟩) m cap, rows := G.rows.take m } := by
  have hgo : G.fsl.ownBlock = some g := by rw [hg]; rfl
  have hf : Fr B w (w.setCell ⟨G.at_, 5, none⟩ (.slice (some ⟨g, 0, none⟩) m cap)) := Fr.set (T := 55) _ (Typ.of h.ok.cell) (by decide) (by decide) h.ok.base
  have hother : ∀ k, k ≠ G.at_ → (w.setCell ⟨G.at_, 5, none⟩ (.slice (some ⟨g, 0, none⟩) m cap)).heap[k]? = w.heap[k]? := fun k h1 => set_ne _ h1
  have hne : ∀ {k T}, Typ w k T → (T == 55) = false → k ≠ G.at_ := fun t hT e => by rw [e] at t; rw [t.uniq (Typ.of h.ok.cell)] at hT; cases hT
  have hr := h.ok.fr
  rw [hg] at hr
  have hget : ∀ (j : Nat) (c : List Value), (G.rows.take m)[j]? = some c → G.rows[j]? = some c := fun j c hc => by
    rw [List.getElem?_take] at hc
    split at hc
    · exact hc
    · cases hc
  have hgetF : ∀ (j : Nat) (F : FrD), (P.frames.take m)[j]? = some F → P.frames[j]? = some F := fun j c hc => by
    rw [List.getElem?_take] at hc
    split at hc
    · exact hc
    · cases hc
  refine h.turn (Ext.refl _ _) hf (fun k _ hs => hother k (fun e => hs (.inl e))) (fun k hk => ?_) ?_ rfl rfl rfl rfl ?_
  · have := h.h.fam.fresh k hk; simpa using this
  · refine ⟨h.ok.base, ?_, (xr_take hr hm).keep (Ext.refl _ w.heap.size) (fun k hk => hother k (hne ((xr_take hr hm).typ hk).1 rfl)), by simp [h.ok.len], fun j F c hF hc => ?_, fun a b c c' k ha hb => h.ok.inj a b c c' k (hget _ _ ha) (hget _ _ hb),
      h.ok.jobs.keep (Ext.refl _ w.heap.size) (fun k hk => hother k (hne (h.ok.jobs.typ hk).1 rfl)), h.ok.outs.keep (Ext.refl _ w.heap.size) (fun k hk => hother k (hne (h.ok.outs.typ hk).1 rfl))⟩
    · rw [set_at h.ok.cell]; rfl
    · have hF := h.ok.row j F c (hgetF _ _ hF) (hget _ _ hc)
      exact hF.keep (Ext.refl _ _) hf (fun k hk => hother k (hne (hF.vals.typ hk).1 rfl))
  · rintro k (rfl | hk | ⟨c1, hc1, hk⟩ | hk | hk)
    · exact .inl (.inl rfl)
    · exact .inl (.inr (.inl (by rw [hgo]; simpa [Value.ownBlock] using hk)))
    · exact .inl (.inr (.inr (.inl ⟨c1, List.mem_of_mem_take hc1, hk⟩)))
    · exact .inl (.inr (.inr (.inr (.inl hk))))
    · exact .inl (.inr (.inr (.inr (.inr hk))))
end
end Go.Proofs.Ytdgpblhmfkpblaa.Pg
