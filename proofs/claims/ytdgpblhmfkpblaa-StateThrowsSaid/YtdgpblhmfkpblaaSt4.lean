/- Frames in memory of their own. -/
import Derived.Test.YtdgpblhmfkpblaaSt3
namespace Go.Proofs.Ytdgpblhmfkpblaa.Pg
open Go.RowKit

def frameRow (F : FrD) (v u : Value) : List Value := [.int .i64 F.fn, .int .i64 F.pc, .int .i64 F.scope, .int .i64 F.this.kind, .int .i64 F.this.n, .string F.this.s, v, u, .int .i64 F.gen]
/-- A frame's nine values read as data. -/
def FrameR (B : Bd) (w : World) (F : FrD) (c : List Value) : Prop := ∃ (A : Option Addr) (n p : Nat) (A' : Option Addr) (n' p' : Nat), c = frameRow F (.slice A n p) (.slice A' n' p') ∧ RowR B w 3 (.slice A n p) (F.vals.map VD.row) ∧ RowR B w 3 (.slice A' n' p') (F.tries.map TrD.row)
def FramesR (B : Bd) (w : World) (Fs : List FrD) (rows : List (List Value)) : Prop := rows.length = Fs.length ∧ ∀ (i : Nat) (F : FrD), Fs[i]? = some F → ∃ c, rows[i]? = some c ∧ FrameR B w F c
/-- A frame whose rows one owns. -/
def FrOut (w : World) (base : Nat) (F : FrD) (c : List Value) : Prop := ∃ (A : Option Addr) (n p : Nat) (A' : Option Addr) (n' p' : Nat), c = frameRow F (.slice A n p) (.slice A' n' p') ∧ ROut w base 33 3 (.slice A n p) (F.vals.map VD.row) ∧ ROut w base 57 3 (.slice A' n' p') (F.tries.map TrD.row)
def FrOuts (w : World) (base : Nat) (Fs : List FrD) (rows : List (List Value)) : Prop := rows.length = Fs.length ∧ ∀ (i : Nat) (F : FrD), Fs[i]? = some F → ∃ c, rows[i]? = some c ∧ FrOut w base F c
section
variable {w w' : World} {base base' : Nat} {F : FrD} {c : List Value} {Fs : List FrD} {rows : List (List Value)}
theorem FrOut.below (h : FrOut w base F c) (hb : Below w.heap.size w w') : FrOut w' base F c := by
  obtain ⟨A, n, p, A', n', p', e, h1, h2⟩ := h
  exact ⟨A, n, p, A', n', p', e, h1.below hb, h2.below hb⟩
theorem FrOuts.below (h : FrOuts w base Fs rows) (hb : Below w.heap.size w w') : FrOuts w' base Fs rows :=
  ⟨h.1, fun i F hF => by obtain ⟨c, hc, hf⟩ := h.2 i F hF; exact ⟨c, hc, hf.below hb⟩⟩
theorem FrOut.low (h : FrOut w base F c) (hb : base' ≤ base) : FrOut w base' F c := by
  obtain ⟨A, n, p, A', n', p', e, h1, h2⟩ := h
  exact ⟨A, n, p, A', n', p', e, h1.low hb, h2.low hb⟩
/-- The frames' own row has grown. -/
theorem FrOut.grown {b sz n : Nat} {v : Value} {xs : List Value} (h : FrOut w base F c) (hv : w.ownsRow b 50 sz v n xs) (hg : w.grownBy w' v.ownBlock) : FrOut w' base F c := by
  obtain ⟨A, n, p, A', n', p', e, h1, h2⟩ := h
  refine ⟨A, n, p, A', n', p', e, h1.stay (fun k hk => hg.block k (h1.lt k hk).2 (fun he => ?_)), h2.stay (fun k hk => hg.block k (h2.lt k hk).2 (fun he => ?_))⟩
  · exact absurd ((own_typ h1 hk).1.uniq (own_typ hv he.symm).1) (by decide)
  · exact absurd ((own_typ h2 hk).1.uniq (own_typ hv he.symm).1) (by decide)
theorem FrOuts.grown {b sz n : Nat} {v : Value} {xs : List Value} (h : FrOuts w base Fs rows) (hv : w.ownsRow b 50 sz v n xs) (hg : w.grownBy w' v.ownBlock) : FrOuts w' base Fs rows :=
  ⟨h.1, fun i F hF => by obtain ⟨c, hc, hf⟩ := h.2 i F hF; exact ⟨c, hc, hf.grown hv hg⟩⟩
theorem FrOuts.push (h : FrOuts w base Fs rows) (hc : FrOut w base F c) : FrOuts w base (Fs ++ [F]) (rows ++ [c]) := by
  refine ⟨by simp [h.1], fun i G hG => ?_⟩
  rw [List.getElem?_append] at hG
  split at hG
  · obtain ⟨d, hd, hf⟩ := h.2 i G hG
    exact ⟨d, by rw [List.getElem?_append_left (by rw [h.1]; omega)]; exact hd, hf⟩
  · rename_i hi
    have := (List.getElem?_eq_some_iff.1 hG).1
    simp at this
    obtain rfl : i = Fs.length := by omega
    simp at hG
    subst hG
    exact ⟨c, by rw [← h.1]; simp, hc⟩
theorem FrOuts.framesR {B : Bd} (h : FrOuts w base Fs rows) (hX : ∀ k, B.X k → k < base) : FramesR B w Fs rows :=
  ⟨h.1, fun i F hF => by
    obtain ⟨c, hc, A, n, p, A', n', p', e, h1, h2⟩ := h.2 i F hF
    exact ⟨c, hc, A, n, p, A', n', p', e, h1.rowR (by decide) hX (fun c hc => by obtain ⟨v, _, rfl⟩ := List.mem_map.1 hc; rfl), h2.rowR (by decide) hX (fun c hc => by obtain ⟨v, _, rfl⟩ := List.mem_map.1 hc; rfl)⟩⟩
end
theorem FramesR.move {B : Bd} {w w' : World} {Fs : List FrD} {rows : List (List Value)} (h : FramesR B w Fs rows) (hf : Fr B w w') : FramesR B w' Fs rows :=
  ⟨h.1, fun i F hF => by
    obtain ⟨c, hc, A, n, p, A', n', p', e, h1, h2⟩ := h.2 i F hF
    exact ⟨c, hc, A, n, p, A', n', p', e, h1.move hf, h2.move hf⟩⟩
theorem infoFrame : (Try.prog.info? 50).map (fun i => (i.zero, i.size, i.bytes)) = some (some (.agg #[.int .i64 0, .int .i64 0, .int .i64 0, .int .i64 0, .int .i64 0, .string ByteArray.empty, .slice none 0 0, .slice none 0 0, .int .i64 0]), 9, 112) := by kernel_rfl

set_option maxHeartbeats 6400000 in
set_option maxRecDepth 100000 in
theorem copiedFrame_c {B : Bd} {w : World} {Fs : List FrD} {rows : List (List Value)} {A : Option Addr} {n cap : Nat} (hr : RowR B w 9 (.slice A n cap) rows) (hF : FramesR B w Fs rows) (hn1 : n ≤ 100000)
    (hsm : ∀ F ∈ Fs, F.vals.length ≤ 100000 ∧ F.tries.length ≤ 100000) :
    Calls Try.prog 86 #[.slice A n cap, .func (.func 87) #[] #[]] w fun e w' => ∃ v' rows', e = .returned v' ∧ Below w.heap.size w w' ∧ ROut w' w.heap.size 50 9 v' rows' ∧ FrOuts w' w.heap.size Fs rows' := by
  obtain ⟨i0, hi, hz0, hz1, hz2⟩ := info_parts infoFrame
  have HI := hid hi
  have HR := hid hr
  have HF := hid hF
  have HS := hid hsm
  have hn := hr.get.1
  have hnF : Fs.length = n := hF.1.symm.trans hn
  clear hi hr hF hsm
  go_enter Try.func86, Try.ntmps86
  go_wp2_with fail
  go_loopw [5, 10] (fun v i wx => ∃ (k : Nat) (rs : List (List Value)), k ≤ n ∧ i = .int .i64 k ∧ Box (Below w.heap.size w wx) ∧ Box (ROut wx w.heap.size 50 9 v rs) ∧ Box (FrOuts wx w.heap.size (Fs.take k) rs)) (fun _ i _ => n - (RowKit.intOf i).toNat)
  case atStart => exact ⟨0, [], by omega, rfl, hid (Below.refl _ _), hid (ROut.nil _ _ _ _), hid ⟨rfl, fun i F h => by simp at h⟩⟩
  case round =>
    obtain ⟨k, rs, hk, rfl, HB, HO, HFO⟩ := hrel
    have s1 := HB.out.size
    rcases Nat.lt_or_ge k n with hlt | hge
    · have hlt' : (k : Int) < (n : Int) := by omega
      have hx : Fs[k]? = some Fs[k] := List.getElem?_eq_getElem (by omega)
      have hsx := HS.out _ (List.mem_of_getElem? hx)
      generalize Fs[k] = F at hx hsx
      obtain ⟨c, hxr, A0, n0, p0, A0', n0', p0', rfl, hv0, ht0⟩ := HF.out.2 k F hx
      obtain ⟨b, o, rfl, -, hc⟩ := (HR.out.move (Fr.of_below HB.out)).get.2.2 k _ hxr
      have y0 := hc 0 _ rfl
      have y1 := hc 1 _ rfl
      have y2 := hc 2 _ rfl
      have y3 := hc 3 _ rfl
      have y4 := hc 4 _ rfl
      have y5 := hc 5 _ rfl
      have y6 := hc 6 _ rfl
      have y7 := hc 7 _ rfl
      have y8 := hc 8 _ rfl
      have e1 := hv0.get.1
      have e2 := ht0.get.1
      rw [List.length_map] at e1 e2
      have HX := hid hx
      have HV0 := hid hv0
      have HT0 := hid ht0
      have hrl : rs.length = k := by rw [HFO.out.1, List.length_take]; omega
      clear hc hxr hx hv0 ht0
      simp only [Nat.add_zero] at y0
      go_wp2_with fail
      have hb1 : Below w.heap.size w (wr.alloc (.cells #[.int .i64 F.fn, .int .i64 F.pc, .int .i64 F.scope, .int .i64 F.this.kind, .int .i64 F.this.n, .string F.this.s, .slice A0 n0 p0, .slice A0' n0' p0', .int .i64 F.gen] 50)) := HB.out.trans (((Below.refl wr.heap.size wr).alloc (Nat.le_refl _) _).mono s1)
      refine (frame_c (B := B) (HV0.out.move (Fr.of_below hb1)) (HT0.out.move (Fr.of_below hb1)) (by omega) (by omega)).mono ?_
      rintro e w2 ⟨A1, n1, p1, A2, n2, p2, rfl, hb2, hv2, ht2⟩
      have hbx : Below w.heap.size w w2 := hb1.trans (hb2.mono (by simp; omega))
      have hb3 : Below wr.heap.size wr w2 := ((Below.refl wr.heap.size wr).alloc (Nat.le_refl _) _).trans (hb2.mono (by simp))
      have hsz : (wr.alloc (.cells #[.int .i64 F.fn, .int .i64 F.pc, .int .i64 F.scope, .int .i64 F.this.kind, .int .i64 F.this.n, .string F.this.s, .slice A0 n0 p0, .slice A0' n0' p0', .int .i64 F.gen] 50)).heap.size = wr.heap.size + 1 := by simp
      have HB2 := hid hbx
      have hb4 := (Below.refl w2.heap.size w2).alloc (Nat.le_refl _) (.cells #[.int .i64 F.fn, .int .i64 F.pc, .int .i64 F.scope, .int .i64 F.this.kind, .int .i64 F.this.n, .string F.this.s, .slice A1 n1 p1, .slice A2 n2 p2, .int .i64 F.gen] 50)
      have HO1 := hid (show (w2.alloc (.cells #[.int .i64 F.fn, .int .i64 F.pc, .int .i64 F.scope, .int .i64 F.this.kind, .int .i64 F.this.n, .string F.this.s, .slice A1 n1 p1, .slice A2 n2 p2, .int .i64 F.gen] 50)).ownsRow w.heap.size 50 9 u5 k rs.flatten by have := (HO.out.below hb3).below hb4; unfold ROut at this; rwa [hrl] at this)
      have HFO1 := hid (((HFO.out.below hb3).below hb4).push (F := F) (c := frameRow F (.slice A1 n1 p1) (.slice A2 n2 p2)) ⟨_, _, _, _, _, _, rfl, (hv2.below hb4).low (by omega), (ht2.below hb4).low (by omega)⟩)
      have s2 := hbx.size
      clear hb2 hbx hb3 hb1 hv2 ht2 hb4
      go_wp2_with (at_builtin; refine wpList_append_own _ rfl _ _ 38 rfl w.heap.size 50 i0 (.agg #[.int .i64 0, .int .i64 0, .int .i64 0, .int .i64 0, .int .i64 0, .string ByteArray.empty, .slice none 0 0, .slice none 0 0, .int .i64 0]) 9 112 Try.underlying38 HI.out hz0 hz1 hz2 rfl (by decide) u5 k rs.flatten ?c1 ?c0 ⟨w2.heap.size, 0, none⟩ 1 1 (frameRow F (.slice A1 n1 p1) (.slice A2 n2 p2)) ?c2 rfl ?c3 ?c4 ?c5 ?c6 ?c7 ?_; (case c1 => rfl); (case c0 => exact HO1.out); (case c2 => rfl); (case c3 => exact World.news_of_block (heap_alloc_new w2 _)); (case c4 => simp [frameRow, Value.oneCell']); (case c5 => unfold maxLen; omega); (case c6 => omega); (case c7 => simp; omega); intro v5 w5 hown hgrow hnil; have HB5 := hid ((HB2.out.trans (((Below.refl w2.heap.size w2).alloc (Nat.le_refl _) _).mono s2)).grown hgrow (by simp; omega) (fun x hx => (HO1.out.lt x hx).1)); have HO5 := hid (ROut.push hrl hown); have HF5 := hid (HFO1.out.grown HO1.out hgrow); clear hown hgrow hnil)
      go_roundw
      case rel => exact ⟨k + 1, _, by omega, by go_num, HB5, HO5, hid (by rw [List.take_add_one, HX.out]; exact HF5.out)⟩
      case measure => simp [RowKit.intOf]; omega
    · obtain rfl : k = n := by omega
      go_wp2_with fail
      rw [List.take_of_length_le (by omega)] at HFO
      obtain ⟨A1, p1, rfl⟩ := HO.out.slice
      go_ret
      exact ⟨_, _, rfl, HB.out, HO.out, HFO.out⟩
end Go.Proofs.Ytdgpblhmfkpblaa.Pg
