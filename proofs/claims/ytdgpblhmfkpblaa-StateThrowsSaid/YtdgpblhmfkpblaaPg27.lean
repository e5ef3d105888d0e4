/- Bounds that grow; rows of cells; a heap's cells as a row. -/
import Derived.Test.YtdgpblhmfkpblaaPg26
import Derived.LoopTactic
namespace Go.Proofs.Ytdgpblhmfkpblaa.Pg
open Go.RowKit

/-- A bound that lets more blocks turn, new ones. -/
structure Ext (B B' : Bd) (n : Nat) : Prop where
  hn : B'.n = B.n
  le : ∀ k, B.X k → B'.X k
  new : ∀ k, B'.X k → B.X k ∨ n ≤ k
theorem Ext.refl (B : Bd) (n : Nat) : Ext B B n := ⟨rfl, fun _ h => h, fun _ h => .inl h⟩
theorem Ext.trans {A B C : Bd} {n m : Nat} (h : Ext A B n) (g : Ext B C m) (hn : n ≤ m) : Ext A C n :=
  ⟨g.hn.trans h.hn, fun k hk => g.le k (h.le k hk), fun k hk => (g.new k hk).elim (h.new k) (fun h' => .inr (Nat.le_trans hn h'))⟩
theorem Ext.mono {A B : Bd} {n m : Nat} (h : Ext A B n) (hm : m ≤ n) : Ext A B m := ⟨h.hn, h.le, fun k hk => (h.new k hk).imp_right (Nat.le_trans hm)⟩
theorem Ext.plus (B : Bd) {g n : Nat} (hg : n ≤ g) : Ext B (B.plus g) n := ⟨rfl, fun _ h => .inl h, fun _ h => h.imp_right (fun e => by rw [e]; exact hg)⟩
section
variable {B B' : Bd} {w : World}
theorem Imm.raise {k n : Nat} (h : Imm B w k) (hE : Ext B B' n) (hn : w.heap.size ≤ n) : Imm B' w k := by
  refine ⟨h.1, ?_⟩
  rcases h.2 with h' | ⟨cs, fr, T, h1, h2, h3⟩
  · exact .inl (by rw [hE.hn]; exact h')
  · exact .inr ⟨cs, fr, T, h1, h2, fun hk => (hE.new k hk).elim h3 (fun e => by have := h.1; omega)⟩
theorem Imm.low {k n : Nat} (h : Imm B' w k) (hE : Ext B B' n) : Imm B w k := by
  refine ⟨h.1, ?_⟩
  rcases h.2 with h' | ⟨cs, fr, T, h1, h2, h3⟩
  · exact .inl (by rw [← hE.hn]; exact h')
  · exact .inr ⟨cs, fr, T, h1, h2, fun hk => h3 (hE.le k hk)⟩
theorem Fr.raise {w' : World} {n : Nat} (h : Fr B w w') (hE : Ext B B' n) : Fr B' w w' := ⟨h.os, h.tape, h.output, h.size, fun k hk => h.imm k (hk.low hE)⟩
theorem RowR.raise {n sz : Nat} {v : Value} {xs : List (List Value)} (h : RowR B w sz v xs) (hE : Ext B B' n) (hn : w.heap.size ≤ n) : RowR B' w sz v xs := by
  obtain ⟨A, m, cap, h1, h2, h3, h4, h5, h6⟩ := h
  refine ⟨A, m, cap, h1, h2, h3, h4, h5, fun h0 => ?_⟩
  obtain ⟨b, o, e, hi, hc⟩ := h6 h0
  exact ⟨b, o, e, hi.raise hE hn, hc⟩
theorem Reads.raise {n : Nat} {c : CD} {ks vl : Value} (h : Reads B w c ks vl) (hE : Ext B B' n) (hn : w.heap.size ≤ n) : Reads B' w c ks vl := ⟨h.k.raise hE hn, h.v.raise hE hn⟩
theorem CellR.raise {n : Nat} {c : CD} {vs : List Value} (h : CellR B w c vs) (hE : Ext B B' n) (hn : w.heap.size ≤ n) : CellR B' w c vs := by
  obtain ⟨ks, vl, e, h1, h2⟩ := h
  exact ⟨ks, vl, e, h1.raise hE hn, h2.raise hE hn⟩
theorem CellsR.raise {n : Nat} (hE : Ext B B' n) (hn : w.heap.size ≤ n) : ∀ {l : List CD} {vs : List Value}, CellsR B w l vs → CellsR B' w l vs
  | [], _, h => h
  | _ :: _, _, ⟨v, r, e, h1, h2⟩ => ⟨v, r, e, h1.raise hE hn, CellsR.raise hE hn h2⟩
theorem own_base {base base' : Nat} {e : TypeId} {size n : Nat} {v : Value} {xs : List Value} (h : w.ownsRow base e size v n xs) (hb : base = base') : w.ownsRow base' e size v n xs := hb ▸ h
theorem Fam.raise {D : FD} {w' : World} (h : Fam B w D) (hE : Ext B B' w.heap.size) (hf : Fr B' w w') (hk : ∀ k, Foot D k → w'.heap[k]? = w.heap[k]?) (hX : ∀ k, B'.X k → k < w'.heap.size) : Fam B' w' D :=
  ⟨by rw [hE.hn]; exact h.base, (hk _ (.inl rfl)).trans h.fam,
    fun k P hP => by
      obtain ⟨h1, h2, inner, h3, h4⟩ := h.pg k P hP
      exact ⟨by rw [hE.hn]; exact h1, (hk k (.inr (.inl ⟨P, hP⟩))).trans h2, inner, own_base (own_move h3 (fun g hg => hk g (.inr (.inr (.inr (.inl ⟨k, P, hP, hg⟩)))))) hE.hn.symm, (h4.raise hE (Nat.le_refl _)).move hf⟩,
    fun k K hK => by
      obtain ⟨h1, h2, h3⟩ := h.bk k K hK
      exact ⟨by rw [hE.hn]; exact h1, (hk k (.inr (.inr (.inl ⟨K, hK⟩)))).trans h2, own_base (own_move h3 (fun g hg => hk g (.inr (.inr (.inr (.inr ⟨k, K, hK, hg⟩)))))) hE.hn.symm⟩, h.pgInj, h.bkInj, hX⟩
/-- What no call of the family's turns stays, where more blocks may turn. -/
theorem Hp.raise {D : FD} {hs : List Nat} {L : List (Option (List CD))} {w' : World} (h : Hp B w D hs L) (hE : Ext B B' w.heap.size) (hf : Fr B' w w') (hk : ∀ k, k < w.heap.size → (Foot D k ∨ k ∈ hs) → w'.heap[k]? = w.heap[k]?) (hX : ∀ k, B'.X k → k < w'.heap.size) : Hp B' w' D hs L := by
  obtain ⟨bs, S, h1, h2, h3, h4, h5⟩ := h
  refine ⟨bs, S, h1.raise hE hf (fun k hF => hk k (h1.foot_lt hF).1 (.inl hF)) hX, h2, h3, fun i x b hx hb => ?_, h5⟩
  have hc := h4 i x b hx hb
  exact (hk x (Array.getElem?_eq_some_iff.1 hc).1 (.inr (List.mem_of_getElem? hx))).trans hc
end

/-- A cell's five values in memory. -/
def CellAt (B : Bd) (w : World) (b o : Nat) (c : CD) : Prop :=
  ∃ A n cap A' n' cap', w.cell? ⟨b, o, none⟩ = some (.int .i64 c.kind) ∧ w.cell? ⟨b, o + 1, none⟩ = some (.int .i64 c.a) ∧ w.cell? ⟨b, o + 2, none⟩ = some (.int .i64 c.b) ∧
    w.cell? ⟨b, o + 3, none⟩ = some (.slice A n cap) ∧ w.cell? ⟨b, o + 4, none⟩ = some (.slice A' n' cap') ∧ Reads B w c (.slice A n cap) (.slice A' n' cap')
/-- A slice that reads as a list of cells. -/
structure CRow (B : Bd) (w : World) (A : Option Addr) (n : Nat) (l : List CD) : Prop where
  len : l.length = n
  at_ : ∀ j c, l[j]? = some c → ∃ b o, A = some ⟨b, o, none⟩ ∧ CellAt B w b (o + j * 5) c

section
variable {B : Bd} {w w' : World} {A : Option Addr} {n b o : Nat} {l : List CD} {c : CD}
theorem CellAt.lt (h : CellAt B w b o c) : b < w.heap.size := by obtain ⟨_, _, _, _, _, _, h, _⟩ := h; exact block_lt_of_cell h
theorem CellAt.move (h : CellAt B w b o c) (hf : Fr B w w') (hb : w'.heap[b]? = w.heap[b]?) : CellAt B w' b o c := by
  obtain ⟨A, n, cap, A', n', cap', h0, h1, h2, h3, h4, h5⟩ := h
  have e : ∀ k, w'.cell? ⟨b, k, none⟩ = w.cell? ⟨b, k, none⟩ := fun k => World.cell?_of_block (a := ⟨b, k, none⟩) hb
  exact ⟨A, n, cap, A', n', cap', (e _).trans h0, (e _).trans h1, (e _).trans h2, (e _).trans h3, (e _).trans h4, h5.move hf⟩
theorem CellAt.below (h : CellAt B w b o c) (hb : Below w.heap.size w w') : CellAt B w' b o c := h.move (Fr.of_below hb) (hb.block b h.lt)
theorem CRow.below (h : CRow B w A n l) (hb : Below w.heap.size w w') : CRow B w' A n l :=
  ⟨h.len, fun j c hj => by obtain ⟨b, o, e, hc⟩ := h.at_ j c hj; exact ⟨b, o, e, hc.below hb⟩⟩
end

/-- A row of one's own that holds these cells. -/
def Out (B : Bd) (w : World) (base : Nat) (v : Value) (l : List CD) : Prop := ∃ inner, w.ownsRow base 47 5 v l.length inner ∧ CellsR B w l inner
theorem fr_grown {B : Bd} {base : Nat} {w w' : World} {T sz n : Nat} {v : Value} {xs : List Value} (ho : w.ownsRow base T sz v n xs) (hb : B ≤ base) (_h1 : T ≠ 9) (h2 : immT T = false) (hg : w.grownBy w' v.ownBlock) : Fr B w w' :=
  ⟨hg.os, hg.tape, hg.output, hg.size, fun k hk => hg.block k hk.1 (fun e => by
    obtain ⟨ht, hbk⟩ := own_typ ho e.symm
    rcases hk.2 with h | ⟨cs, fr, T', h, hT', _⟩
    · omega
    · have := ht.uniq (Typ.of h)
      subst this
      rw [h2] at hT'
      cases hT')⟩
section
variable {B : Bd} {base : Nat} {w w' : World} {v v' : Value} {l : List CD} {c : CD}
theorem Out.nil (B : Bd) (w : World) (base : Nat) : Out B w base (.slice none 0 0) [] := ⟨[], World.ownsRow_nil _ _ _ _, rfl⟩
theorem Out.below (h : Out B w base v l) (hb : Below w.heap.size w w') : Out B w' base v l := by
  obtain ⟨inner, h1, h2⟩ := h
  exact ⟨inner, own_move h1 (fun k hk => hb.block k (h1.lt k hk).2), h2.move (Fr.of_below hb)⟩
theorem Out.grow {inner : List Value} {k : Nat} (hk : l.length = k) (h1 : w.ownsRow base 47 5 v k inner) (h2 : CellsR B w l inner) (hB : B ≤ base) (hg : w.grownBy w' v.ownBlock) {vs : List Value} (ho : w'.ownsRow base 47 5 v' (k + 1) (inner ++ vs)) (hc : CellR B w c vs) : Out B w' base v' (l ++ [c]) := by
  have hf := fr_grown h1 hB (by decide) (by decide) hg
  exact ⟨inner ++ vs, by rw [List.length_append, hk]; exact ho, (h2.move hf).append (CellsR.one (hc.move hf))⟩
theorem Out.slice (h : Out B w base v l) : ∃ A cap, v = .slice A l.length cap ∧ l.length ≤ maxLen ∧ CRow B w A l.length l := by
  obtain ⟨inner, h1, h2⟩ := h
  rcases h1.2 with ⟨hv, h0⟩ | ⟨g, cap, cur, hv, hb, hg, hl, hm, hs, ht⟩
  · have hl : l = [] := List.length_eq_zero_iff.1 h0
    subst hl
    exact ⟨none, 0, hv, by decide, rfl, fun j c hj => by simp at hj⟩
  · refine ⟨some ⟨g, 0, none⟩, cap, hv, Nat.le_trans hl hm, rfl, fun j c hj => ⟨g, 0, rfl, ?_⟩⟩
    obtain ⟨vs, ⟨ks, vl, rfl, hk, hv'⟩, hcell⟩ := h2.get j c hj
    obtain ⟨A1, n1, p1, rfl, _⟩ := id hk
    obtain ⟨A2, n2, p2, rfl, _⟩ := id hv'
    have hcc : ∀ i u, inner[i]? = some u → w.cell? ⟨g, i, none⟩ = some u := fun i u hu => by
      have := h1.cells (g := g) (by rw [hv]; rfl) i u hu
      rwa [show (⟨g, 0, none⟩ : Addr).add i = ⟨g, i, none⟩ by unfold Addr.add; split <;> simp_all] at this
    rw [Nat.zero_add]
    exact ⟨A1, n1, p1, A2, n2, p2, hcc _ _ (hcell 0 _ rfl), hcc _ _ (hcell 1 _ rfl), hcc _ _ (hcell 2 _ rfl), hcc _ _ (hcell 3 _ rfl), hcc _ _ (hcell 4 _ rfl), hk, hv'⟩
end

set_option maxHeartbeats 1600000 in
set_option maxRecDepth 100000 in
theorem Hp.cells {B : Bd} {w : World} {D : FD} {hs : List Nat} {L : List (Option (List CD))} {i a : Nat} {l : List CD} (h : Hp B w D hs L) (hB : B ≤ w.heap.size) (ha : hs[i]? = some a) (hl : L[i]? = some (some l)) (hn : l.length ≤ 4096) :
    Calls Try.prog 52 #[.pointer (some ⟨a, 0, none⟩)] w fun e w' => ∃ v, e = .returned v ∧ Below w.heap.size w w' ∧ Out B w' w.heap.size v l := by
  have HH := hid h
  obtain ⟨i0, hi, hz0, hz1, hz2⟩ := info_parts infoCells
  have HI := hid hi
  clear h hi
  go_enter Try.func52, Try.ntmps52
  go_wp2_with fail
  refine (HH.out.len ha hl rfl).mono ?_
  rintro e w1 ⟨rfl, rfl⟩
  go_wp2_with fail
  go_loopw [3, 9] (fun v i wx => ∃ k : Nat, k ≤ l.length ∧ i = .int .i64 k ∧ Box (Below w1.heap.size w1 wx) ∧ Box (Out B wx w1.heap.size v (l.take k))) (fun _ i _ => l.length - (intOf i).toNat)
  case atStart => exact ⟨0, by omega, rfl, hid (Below.refl _ _), hid (Out.nil _ _ _)⟩
  case round =>
    obtain ⟨k, hk, rfl, HB, HO⟩ := hrel
    have s1 := HB.out.size
    rcases Nat.lt_or_ge k l.length with hlt | hge
    · have hlt' : (k : Int) < (l.length : Nat) := by omega
      have hx : l[k]? = some l[k] := List.getElem?_eq_getElem hlt
      generalize l[k] = c at hx
      have HX := hid hx
      clear hx
      go_wp2_with fail
      refine ((HH.out.below HB.out).load (Nat.le_trans hB s1) ha hl (k := (k : Int) + 1) (by omega) (by omega) (c := c) (by rw [show ((k : Int) + 1 - 1).toNat = k by omega]; exact HX.out)).mono ?_
      rintro e w3 ⟨A1, n1, p1, A2, n2, p2, rfl, hb3, hr3⟩
      have HB3 := hid hb3
      have HR3 := hid hr3
      clear hb3 hr3
      have s3 := HB3.out.size
      have hb4 : Below w3.heap.size w3 ((w3.alloc (.cells #[.int .i64 c.kind, .int .i64 c.a, .int .i64 c.b, .slice A1 n1 p1, .slice A2 n2 p2] 47)).alloc (.cells #[.int .i64 c.kind, .int .i64 c.a, .int .i64 c.b, .slice A1 n1 p1, .slice A2 n2 p2] 47)) := ((Below.refl _ _).alloc (Nat.le_refl _) _).alloc (by simp) _
      have HB4 := hid ((HB.out.trans (HB3.out.mono s1)).trans (hb4.mono (Nat.le_trans s1 s3)))
      have hr4 := HR3.out.move (Fr.of_below hb4)
      have r2 := heap_alloc_new (w3.alloc (.cells #[.int .i64 c.kind, .int .i64 c.a, .int .i64 c.b, .slice A1 n1 p1, .slice A2 n2 p2] 47)) (.cells #[.int .i64 c.kind, .int .i64 c.a, .int .i64 c.b, .slice A1 n1 p1, .slice A2 n2 p2] 47)
      rw [show (w3.alloc (.cells #[.int .i64 c.kind, .int .i64 c.a, .int .i64 c.b, .slice A1 n1 p1, .slice A2 n2 p2] 47)).heap.size = w3.heap.size + 1 by simp] at r2
      have HNews := hid (World.news_of_block r2)
      have hS : w1.heap.size ≤ ((w3.alloc (.cells #[.int .i64 c.kind, .int .i64 c.a, .int .i64 c.b, .slice A1 n1 p1, .slice A2 n2 p2] 47)).alloc (.cells #[.int .i64 c.kind, .int .i64 c.a, .int .i64 c.b, .slice A1 n1 p1, .slice A2 n2 p2] 47)).heap.size := HB4.out.size
      obtain ⟨inner, ho, hcc⟩ := HO.out.below (HB3.out.trans (hb4.mono s3))
      have hlk : (l.take k).length = k := by rw [List.length_take]; omega
      rw [hlk] at ho
      have HOwn := hid ho
      have HCC := hid hcc
      have HR4 := hid hr4
      have HS := hid hS
      have HLK := hid hlk
      clear hb4 hr4 r2 ho hcc hlk hS
      go_wp2_with (at_builtin; refine wpList_append_own _ rfl _ _ 37 rfl w1.heap.size 47 i0 (.agg #[.int .i64 0, .int .i64 0, .int .i64 0, .slice none 0 0, .slice none 0 0]) 5 72 Try.underlying37 HI.out hz0 hz1 hz2 rfl (by decide) u3 k inner ?c1 HOwn.out ⟨w3.heap.size + 1, 0, none⟩ 1 1 [.int .i64 c.kind, .int .i64 c.a, .int .i64 c.b, .slice A1 n1 p1, .slice A2 n2 p2] ?c2 rfl ?c3 ?c4 ?c5 ?c6 HS.out ?_; (case c1 => rfl); (case c2 => rfl); (case c3 => exact HNews.out); (case c4 => simp [Value.oneCell']); (case c5 => unfold maxLen; omega); (case c6 => omega); intro v5 w5 hown hgrow hnil; have HB5 := hid (HB4.out.grown hgrow HS.out (fun x hx => (HOwn.out.lt x hx).1)); have HO5 := hid (Out.grow HLK.out HOwn.out HCC.out hB hgrow hown ⟨_, _, rfl, HR4.out.k, HR4.out.v⟩); clear hown hgrow hnil)
      go_roundw
      case rel => exact ⟨k + 1, by omega, by go_num, HB5, hid (by rw [List.take_add_one, HX.out]; exact HO5.out)⟩
      case measure => simp [intOf]; omega
    · obtain rfl : k = l.length := by omega
      go_wp2_with fail
      rw [List.take_length] at HO
      obtain ⟨A, cap, rfl, -, -⟩ := HO.out.slice
      go_ret
      exact ⟨_, rfl, HB.out, HO.out⟩
end Go.Proofs.Ytdgpblhmfkpblaa.Pg
