/- What a state is in memory. -/
import Derived.Test.YtdgpblhmfkpblaaStU
namespace Go.Proofs.Ytdgpblhmfkpblaa.Pg
open Go.RowKit

/-- What a state is, as data. -/
structure PS where
  status : Int
  cells : List CD
  frames : List FrD
  jobs : List JobD
  outs : List ByteArray
/-- Where it lies: its block, its heap's, its rows. -/
structure SG where
  at_ : Nat
  hp : Nat
  fsl : Value
  rows : List (List Value)
  jsl : Value
  osl : Value
  funs : Value
theorem Imm.raise' {B B' : Bd} {w : World} {k n : Nat} (h : Imm B w k) (hE : Ext B B' n) (hk : k < n) : Imm B' w k := by
  refine ⟨h.1, ?_⟩
  rcases h.2 with h' | ⟨cs, fr, T, h1, h2, h3⟩
  · exact .inl (by rw [hE.hn]; exact h')
  · exact .inr ⟨cs, fr, T, h1, h2, fun hX => (hE.new k hX).elim h3 (fun e => by omega)⟩
/-- A row of a state's own: its block may turn. -/
structure XRow (B : Bd) (w : World) (T : TypeId) (sz : Nat) (v : Value) (rows : List (List Value)) : Prop where
  own : w.ownsRow B T sz v rows.length rows.flatten
  X : ∀ k, v.ownBlock = some k → B.X k
  sz : ∀ c ∈ rows, c.length = sz
def valsOf (c : List Value) : Value := c.getD 6 (.slice none 0 0)
/-- A frame's row. -/
def FrX (B : Bd) (w : World) (F : FrD) (c : List Value) : Prop := ∃ v t, c = frameRow F v t ∧ XRow B w 33 3 v (F.vals.map VD.row) ∧ RowR B w 3 t (F.tries.map TrD.row)
def stRow (G : SG) (P : PS) : Array Value := #[ptr G.hp, .int .i64 P.status, .int .i64 0, .int .i64 0, .slice none 0 0, G.fsl, .int .i64 0, G.jsl, .slice none 0 0, .int .i64 0, .slice none 0 0, .slice none 0 0, G.osl, G.funs]
structure StOk (B : Bd) (w : World) (G : SG) (P : PS) : Prop where
  base : B ≤ G.at_
  cell : w.heap[G.at_]? = some (.cells (stRow G P) 55 (0, 0))
  fr : XRow B w 50 9 G.fsl G.rows
  len : G.rows.length = P.frames.length
  row : ∀ (i : Nat) (F : FrD) (c : List Value), P.frames[i]? = some F → G.rows[i]? = some c → FrX B w F c
  inj : ∀ (i j : Nat) (c c' : List Value) (g : Nat), G.rows[i]? = some c → G.rows[j]? = some c' → (valsOf c).ownBlock = some g → (valsOf c').ownBlock = some g → i = j
  jobs : XRow B w 69 8 G.jsl (P.jobs.map JobD.row)
  outs : XRow B w 9 1 G.osl (P.outs.map keyRow)
/-- The blocks of a state's own. -/
def SFoot (G : SG) (k : Nat) : Prop := k = G.at_ ∨ G.fsl.ownBlock = some k ∨ (∃ c, c ∈ G.rows ∧ (valsOf c).ownBlock = some k) ∨ G.jsl.ownBlock = some k ∨ G.osl.ownBlock = some k

section
variable {B B' : Bd} {w w' : World} {T sz : Nat} {v : Value} {rows : List (List Value)} {G : SG} {P : PS} {D : FD}
theorem XRow.nil (B : Bd) (w : World) (T : TypeId) (sz : Nat) : XRow B w T sz (.slice none 0 0) [] := ⟨World.ownsRow_nil _ _ _ _, fun k hk => by simp [Value.ownBlock] at hk, by simp⟩
theorem XRow.keep (h : XRow B w T sz v rows) {n : Nat} (hE : Ext B B' n) (hk : ∀ k, v.ownBlock = some k → w'.heap[k]? = w.heap[k]?) : XRow B' w' T sz v rows :=
  ⟨own_base (own_move h.own hk) hE.hn.symm, fun k hk' => hE.le k (h.X k hk'), h.sz⟩
theorem XRow.slice (h : XRow B w T sz v rows) : ∃ A cap, v = .slice A rows.length cap := by
  rcases h.own.2 with ⟨rfl, h0⟩ | ⟨g, cap, cur, rfl, _⟩
  · exact ⟨none, 0, by rw [h0]⟩
  · exact ⟨_, _, rfl⟩
theorem XRow.typ (h : XRow B w T sz v rows) {k : Nat} (hk : v.ownBlock = some k) : Typ w k T ∧ B ≤ k := own_typ h.own hk
theorem XRow.here (h : XRow B w T sz v rows) : RowR (here w) w sz v rows := RowR.own_here h.own h.sz rfl
theorem VD.row_len {l : List VD} : ∀ c ∈ l.map VD.row, c.length = 3 := fun c hc => by obtain ⟨v, _, rfl⟩ := List.mem_map.1 hc; rfl
theorem JobD.row_len {l : List JobD} : ∀ c ∈ l.map JobD.row, c.length = 8 := fun c hc => by obtain ⟨v, _, rfl⟩ := List.mem_map.1 hc; rfl

theorem FrX.len {F : FrD} {c : List Value} (h : FrX B w F c) : c.length = 9 := by obtain ⟨v, t, rfl, _⟩ := h; rfl
theorem FrX.vals {F : FrD} {c : List Value} (h : FrX B w F c) : XRow B w 33 3 (valsOf c) (F.vals.map VD.row) := by obtain ⟨v, t, rfl, h1, _⟩ := h; exact h1
theorem FrX.keep {F : FrD} {c : List Value} (h : FrX B w F c) (hE : Ext B B' w.heap.size) (hf : Fr B w w') (hk : ∀ k, (valsOf c).ownBlock = some k → w'.heap[k]? = w.heap[k]?) : FrX B' w' F c := by
  obtain ⟨v, t, rfl, h1, h2⟩ := h
  exact ⟨v, t, rfl, h1.keep hE hk, (h2.raise hE (Nat.le_refl _)).move (hf.raise hE)⟩
theorem StOk.rowAt (h : StOk B w G P) {c : List Value} (hc : c ∈ G.rows) : ∃ (i : Nat) (F : FrD), P.frames[i]? = some F ∧ G.rows[i]? = some c ∧ FrX B w F c := by
  obtain ⟨i, hi, rfl⟩ := List.getElem_of_mem hc
  have hi' : i < P.frames.length := by rw [← h.len]; exact hi
  have h1 : P.frames[i]? = some P.frames[i] := List.getElem?_eq_getElem hi'
  have h2 : G.rows[i]? = some G.rows[i] := List.getElem?_eq_getElem hi
  exact ⟨i, _, h1, h2, h.row i _ _ h1 h2⟩
/-- The types of a state's blocks. -/
theorem StOk.foot_typ (h : StOk B w G P) {k : Nat} (hk : SFoot G k) : B ≤ k ∧ ∃ T, Typ w k T ∧ (T == 55 || T == 50 || T == 33 || T == 69 || T == 9) = true := by
  rcases hk with rfl | hk | ⟨c, hc, hk⟩ | hk | hk
  · exact ⟨h.base, _, Typ.of h.cell, rfl⟩
  · exact ⟨(h.fr.typ hk).2, _, (h.fr.typ hk).1, rfl⟩
  · obtain ⟨i, F, _, _, hF⟩ := h.rowAt hc
    exact ⟨(hF.vals.typ hk).2, _, (hF.vals.typ hk).1, rfl⟩
  · exact ⟨(h.jobs.typ hk).2, _, (h.jobs.typ hk).1, rfl⟩
  · exact ⟨(h.outs.typ hk).2, _, (h.outs.typ hk).1, rfl⟩
theorem StOk.foot_lt (h : StOk B w G P) {k : Nat} (hk : SFoot G k) : k < w.heap.size ∧ B ≤ k := by
  obtain ⟨h1, T, hT, _⟩ := h.foot_typ hk
  exact ⟨hT.lt, h1⟩
theorem Fam.foot_typ' (h : Fam B w D) {k : Nat} (hk : Foot D k) : ∃ T, Typ w k T ∧ (T == 55 || T == 50 || T == 33 || T == 69 || T == 9) = false := by
  rcases hk with rfl | ⟨P, hP⟩ | ⟨K, hK⟩ | ⟨p, P, hP, hk⟩ | ⟨b, K, hK, hk⟩
  · exact ⟨_, h.tFam, by decide⟩
  · exact ⟨_, h.tPg hP, by decide⟩
  · exact ⟨_, h.tBk hK, by decide⟩
  · exact ⟨_, h.tPgRow hP hk, by decide⟩
  · exact ⟨_, h.tBkRow hK hk, by decide⟩
/-- A state's own blocks are none of the family's. -/
theorem StOk.no_foot (h : StOk B w G P) (hF : Fam B w D) {k : Nat} (hk : SFoot G k) : ¬ Foot D k := fun hf => by
  obtain ⟨_, T, hT, h1⟩ := h.foot_typ hk
  obtain ⟨T', hT', h2⟩ := hF.foot_typ' hf
  rw [hT.uniq hT', h2] at h1
  cases h1
theorem Hp.typ {hs : List Nat} {L : List (Option (List CD))} (h : Hp B w D hs L) {k : Nat} (hk : k ∈ hs) : Typ w k 140 := by
  obtain ⟨bs, S, h1, h2, h3, h4, h5⟩ := h
  obtain ⟨i, hi, rfl⟩ := List.getElem_of_mem hk
  exact Typ.of (h4 i hs[i] (bs[i]'(by omega)) (List.getElem?_eq_getElem hi) (List.getElem?_eq_getElem (by omega)))
theorem StOk.no_heap (h : StOk B w G P) {hs : List Nat} {L : List (Option (List CD))} (hH : Hp B w D hs L) {k : Nat} (hk : SFoot G k) : k ∉ hs := fun hf => by
  obtain ⟨_, T, hT, h1⟩ := h.foot_typ hk
  rw [hT.uniq (hH.typ hf)] at h1
  exact absurd h1 (by decide)
theorem StOk.keep (h : StOk B w G P) (hE : Ext B B' w.heap.size) (hf : Fr B w w') (hk : ∀ k, SFoot G k → w'.heap[k]? = w.heap[k]?) : StOk B' w' G P where
  base := by rw [hE.hn]; exact h.base
  cell := (hk _ (.inl rfl)).trans h.cell
  fr := h.fr.keep hE (fun k hk' => hk k (.inr (.inl hk')))
  len := h.len
  row := fun i F c hF hc => (h.row i F c hF hc).keep hE hf (fun k hk' => hk k (.inr (.inr (.inl ⟨c, List.mem_of_getElem? hc, hk'⟩))))
  inj := h.inj
  jobs := h.jobs.keep hE (fun k hk' => hk k (.inr (.inr (.inr (.inl hk')))))
  outs := h.outs.keep hE (fun k hk' => hk k (.inr (.inr (.inr (.inr hk')))))
end

/-- A state in memory: the i-th of heaps that come of one another is its own. -/
structure Sta (B : Bd) (w : World) (D : FD) (hs : List Nat) (L : List (Option (List CD))) (i : Nat) (G : SG) (P : PS) : Prop where
  h : Hp B w D hs L
  hp : hs[i]? = some G.hp
  cells : L[i]? = some (some P.cells)
  ok : StOk B w G P
/-- What a call of a state's leaves as it was. -/
structure SMv (B : Bd) (w : World) (D : FD) (G : SG) (B' : Bd) (w' : World) (D' : FD) (G' : SG) : Prop where
  ext : Ext B B' w.heap.size
  fr : Fr B w w'
  keep : ∀ k, k < w.heap.size → ¬ Foot D k → ¬ SFoot G k → w'.heap[k]? = w.heap[k]?
  foot : ∀ k, Foot D' k → Foot D k ∨ w.heap.size ≤ k
  sfoot : ∀ k, SFoot G' k → SFoot G k ∨ w.heap.size ≤ k
  at_ : G'.at_ = G.at_
  hp : G'.hp = G.hp
  funs : G'.funs = G.funs

section
variable {B B' B'' : Bd} {w w' w'' : World} {G G' G'' : SG} {P P' : PS} {D D' D'' : FD} {hs : List Nat} {L : List (Option (List CD))} {i : Nat}
theorem SMv.refl (B : Bd) (w : World) (D : FD) (G : SG) : SMv B w D G B w D G := ⟨Ext.refl _ _, Fr.refl _ _, fun _ _ _ _ => rfl, fun _ h => .inl h, fun _ h => .inl h, rfl, rfl, rfl⟩
theorem SMv.trans (h : SMv B w D G B' w' D' G') (g : SMv B' w' D' G' B'' w'' D'' G'') : SMv B w D G B'' w'' D'' G'' where
  ext := h.ext.trans g.ext h.fr.size
  fr := ⟨g.fr.os.trans h.fr.os, g.fr.tape.trans h.fr.tape, g.fr.output.trans h.fr.output, Nat.le_trans h.fr.size g.fr.size, fun k hk => (g.fr.imm k ((hk.move h.fr).raise' h.ext hk.1)).trans (h.fr.imm k hk)⟩
  keep := fun k hk hn hm => (g.keep k (Nat.lt_of_lt_of_le hk h.fr.size) (fun hf => (h.foot k hf).elim hn (by omega)) (fun hf => (h.sfoot k hf).elim hm (by omega))).trans (h.keep k hk hn hm)
  foot := fun k hk => (g.foot k hk).elim (h.foot k) (fun h' => .inr (Nat.le_trans h.fr.size h'))
  sfoot := fun k hk => (g.sfoot k hk).elim (h.sfoot k) (fun h' => .inr (Nat.le_trans h.fr.size h'))
  at_ := g.at_.trans h.at_
  hp := g.hp.trans h.hp
  funs := g.funs.trans h.funs
theorem SMv.below (D : FD) (G : SG) (hb : Below w.heap.size w w') : SMv B w D G B w' D G := ⟨Ext.refl _ _, Fr.of_below hb, fun k hk _ _ => hb.block k hk, fun _ h => .inl h, fun _ h => .inl h, rfl, rfl, rfl⟩
theorem SMv.goes (G : SG) (hG : Goes B w D w' D') : SMv B w D G B w' D' G := ⟨Ext.refl _ _, hG.fr, fun k hk hn _ => hG.keep k hk hn, hG.foot, fun _ h => .inl h, rfl, rfl, rfl⟩
/-- What is not of the state's stays below it. -/
theorem SMv.low (h : SMv B w D G B' w' D' G') (hS : Sta B w D hs L i G P) {n : Nat} (hn : n ≤ B) : Below n w w' :=
  ⟨h.fr.os, h.fr.tape, h.fr.output, h.fr.size, fun k hk => h.keep k (by have := (hS.ok.foot_lt (.inl rfl)); omega) (fun hf => by have := (hS.h.fam.foot_lt hf).2; omega) (fun hf => by have := (hS.ok.foot_lt hf).2; omega)⟩
theorem Sta.below (h : Sta B w D hs L i G P) (hb : Below w.heap.size w w') : Sta B w' D hs L i G P :=
  ⟨h.h.below hb, h.hp, h.cells, h.ok.keep (Ext.refl _ _) (Fr.of_below hb) (fun k hk => hb.block k (h.ok.foot_lt hk).1)⟩
/-- The heap has turned. -/
theorem Sta.goes (h : Sta B w D hs L i G P) {l : List CD} (hH : Hp B w' D' hs (L.set i (some l))) (hG : Goes B w D w' D') : Sta B w' D' hs (L.set i (some l)) i G { P with cells := l } := by
  have hi := (List.getElem?_eq_some_iff.1 h.cells).1
  have := h.ok.keep (Ext.refl _ _) hG.fr (fun k hk => hG.keep k (h.ok.foot_lt hk).1 (h.ok.no_foot h.h.fam hk))
  exact ⟨hH, h.hp, by simp [hi], ⟨this.base, this.cell, this.fr, this.len, this.row, this.inj, this.jobs, this.outs⟩⟩
/-- The state's own blocks have turned. -/
theorem Sta.turn (h : Sta B w D hs L i G P) (hE : Ext B B' w.heap.size) (hf : Fr B w w') (hkeep : ∀ k, k < w.heap.size → ¬ SFoot G k → w'.heap[k]? = w.heap[k]?) (hX : ∀ k, B'.X k → k < w'.heap.size)
    (hok : StOk B' w' G' P') (hc : P'.cells = P.cells) (ha : G'.at_ = G.at_) (hh : G'.hp = G.hp) (hfu : G'.funs = G.funs) (hfoot : ∀ k, SFoot G' k → SFoot G k ∨ w.heap.size ≤ k) : Sta B' w' D hs L i G' P' ∧ SMv B w D G B' w' D G' :=
  ⟨⟨h.h.raise hE (hf.raise hE) (fun k hk hF => hkeep k hk (fun hs => hF.elim (h.ok.no_foot h.h.fam hs) (h.ok.no_heap h.h hs))) hX, by rw [hh]; exact h.hp, by rw [hc]; exact h.cells, hok⟩,
    ⟨hE, hf, fun k hk _ hn => hkeep k hk hn, fun _ h => .inl h, hfoot, ha, hh, hfu⟩⟩
/-- Another state stays as it is. -/
theorem SMv.other (h : SMv B w D G B' w' D' G') {G2 : SG} {P2 : PS} (hF : Fam B w D) (h2 : StOk B w G2 P2) (hd : ∀ k, SFoot G2 k → ¬ SFoot G k) : StOk B' w' G2 P2 :=
  h2.keep h.ext h.fr (fun k hk => h.keep k (h2.foot_lt hk).1 (h2.no_foot hF hk) (hd k hk))
theorem SMv.row {sz : Nat} {v : Value} {rows : List (List Value)} (h : SMv B w D G B' w' D' G') (hr : RowR B w sz v rows) : RowR B' w' sz v rows := (hr.raise h.ext (Nat.le_refl _)).move (h.fr.raise h.ext)

/-- A row of a state's own has grown. -/
theorem fr_grownX {B : Bd} {w w' : World} {v : Value} {base : Nat} {T sz n : Nat} {xs : List Value} (ho : w.ownsRow base T sz v n xs) (hb : B ≤ base) (hX : ∀ k, v.ownBlock = some k → B.X k) (hg : w.grownBy w' v.ownBlock) : Fr B w w' :=
  ⟨hg.os, hg.tape, hg.output, hg.size, fun k hk => hg.block k hk.1 (fun e => by
    have h1 := own_typ ho e.symm
    rcases hk.2 with h | ⟨cs, fr, T', h, hT', hn⟩
    · omega
    · exact hn (hX k e.symm))⟩
theorem Ext.plusOr {B : Bd} {g n : Nat} (h : B.X g ∨ n ≤ g) : Ext B (B.plus g) n := ⟨rfl, fun _ h => .inl h, fun k hk => hk.elim .inl (fun e => by rw [e]; exact h)⟩
end
end Go.Proofs.Ytdgpblhmfkpblaa.Pg
