/- A heap's cells as a row. -/
import Derived.Test.YtljbdmmidajmdaaPg35
namespace Go.Proofs.Ytljbdmmidajmdaa.Pg
open Go.RowKit

/-- A row of one's own that holds these cells. -/
def Out (B : Nat) (w : World) (base : Nat) (v : Value) (l : List CD) : Prop := ∃ inner, w.ownsRow base 31 5 v l.length inner ∧ CellsR B w l inner
theorem fr_grown {B base : Nat} {w w' : World} {T sz n : Nat} {v : Value} {xs : List Value} (ho : w.ownsRow base T sz v n xs) (hb : B ≤ base) (h1 : T ≠ 9) (h2 : T ≠ 60) (hg : w.grownBy w' v.ownBlock) : Fr B w w' :=
  ⟨hg.os, hg.tape, hg.output, hg.size, fun k hk => hg.block k hk.1 (fun e => by
    obtain ⟨ht, hbk⟩ := own_typ ho e.symm
    rcases hk.2 with h | ⟨cs, fr, T', h, hT'⟩
    · omega
    · have := ht.uniq (Typ.of h)
      subst this
      rcases hT' with h | h
      · exact h1 h
      · exact h2 h)⟩
section
variable {B base : Nat} {w w' : World} {v v' : Value} {l : List CD} {c : CD}
theorem Out.nil (B : Nat) (w : World) (base : Nat) : Out B w base (.slice none 0 0) [] := ⟨[], World.ownsRow_nil _ _ _ _, rfl⟩
theorem Out.below (h : Out B w base v l) (hb : Below w.heap.size w w') : Out B w' base v l := by
  obtain ⟨inner, h1, h2⟩ := h
  exact ⟨inner, own_move h1 (fun k hk => hb.block k (h1.lt k hk).2), h2.move (Fr.of_below hb)⟩
theorem Out.grow {inner : List Value} {k : Nat} (hk : l.length = k) (h1 : w.ownsRow base 31 5 v k inner) (h2 : CellsR B w l inner) (hB : B ≤ base) (hg : w.grownBy w' v.ownBlock) {vs : List Value} (ho : w'.ownsRow base 31 5 v' (k + 1) (inner ++ vs)) (hc : CellR B w c vs) : Out B w' base v' (l ++ [c]) := by
  have hf := fr_grown h1 hB (by decide) (by decide) hg
  exact ⟨inner ++ vs, by rw [List.length_append, hk]; exact ho, (h2.move hf).append (CellsR.one (hc.move hf))⟩
theorem Out.slice (h : Out B w base v l) : ∃ A cap, v = .slice A l.length cap ∧ l.length ≤ maxLen ∧ CRow B w A l.length l := by
  obtain ⟨inner, h1, h2⟩ := h
  rcases h1.2 with ⟨hv, h0⟩ | ⟨g, cap, cur, hv, hb, hg, hl, hm, hs, ht⟩
  · have hl : l = [] := List.length_eq_zero_iff.1 h0
    subst hl
    exact ⟨none, 0, hv, by decide, rfl, fun j c hj => by simp at hj⟩
  · refine ⟨some ⟨g, 0, none⟩, cap, hv, Nat.le_trans hl hm, rfl, fun j c hj => ⟨g, 0, rfl, ?_⟩⟩
    obtain ⟨vs, ⟨ks, vl, rfl, hk, hv'⟩, hcell⟩ := h2.get j c hj
    obtain ⟨A1, n1, p1, rfl, _⟩ := id hk
    obtain ⟨A2, n2, p2, rfl, _⟩ := id hv'
    have hcc : ∀ i u, inner[i]? = some u → w.cell? ⟨g, i, none⟩ = some u := fun i u hu => by
      have := h1.cells (g := g) (by rw [hv]; rfl) i u hu
      rwa [show (⟨g, 0, none⟩ : Addr).add i = ⟨g, i, none⟩ by unfold Addr.add; split <;> simp_all] at this
    rw [Nat.zero_add]
    exact ⟨A1, n1, p1, A2, n2, p2, hcc _ _ (hcell 0 _ rfl), hcc _ _ (hcell 1 _ rfl), hcc _ _ (hcell 2 _ rfl), hcc _ _ (hcell 3 _ rfl), hcc _ _ (hcell 4 _ rfl), hk, hv'⟩
end

set_option maxHeartbeats 1600000 in
set_option maxRecDepth 100000 in
theorem Hp.cells {B : Nat} {w : World} {D : FD} {hs : List Nat} {L : List (Option (List CD))} {i a : Nat} {l : List CD} (h : Hp B w D hs L) (hB : B ≤ w.heap.size) (ha : hs[i]? = some a) (hl : L[i]? = some (some l)) (hn : l.length ≤ 4096) :
    Calls Try.prog 37 #[.pointer (some ⟨a, 0, none⟩)] w fun e w' => ∃ v, e = .returned v ∧ Below w.heap.size w w' ∧ Out B w' w.heap.size v l := by
  have HH := hid h
  obtain ⟨i0, hi, hz0, hz1, hz2⟩ := info_parts infoCells
  have HI := hid hi
  clear h hi
  go_enter Try.func37, Try.ntmps37
  go_wp2_with fail
  refine (HH.out.len ha hl rfl).mono ?_
  rintro e w1 ⟨rfl, rfl⟩
  go_wp2_with fail
  go_loopw [3, 9] (fun v i wx => ∃ k : Nat, k ≤ l.length ∧ i = .int .i64 k ∧ Box (Below w1.heap.size w1 wx) ∧ Box (Out B wx w1.heap.size v (l.take k))) (fun _ i _ => l.length - (intOf i).toNat)
  case atStart => exact ⟨0, by omega, rfl, hid (Below.refl _ _), hid (Out.nil _ _ _)⟩
  case round =>
    obtain ⟨k, hk, rfl, HB, HO⟩ := hrel
    have s1 := HB.out.size
    rcases Nat.lt_or_ge k l.length with hlt | hge
    · have hlt' : (k : Int) < (l.length : Nat) := by omega
      have hx : l[k]? = some l[k] := List.getElem?_eq_getElem hlt
      generalize l[k] = c at hx
      have HX := hid hx
      clear hx
      go_wp2_with fail
      refine ((HH.out.below HB.out).load (Nat.le_trans hB s1) ha hl (k := (k : Int) + 1) (by omega) (by omega) (c := c) (by rw [show ((k : Int) + 1 - 1).toNat = k by omega]; exact HX.out)).mono ?_
      rintro e w3 ⟨A1, n1, p1, A2, n2, p2, rfl, hb3, hr3⟩
      have HB3 := hid hb3
      have HR3 := hid hr3
      clear hb3 hr3
      have s3 := HB3.out.size
      have hb4 : Below w3.heap.size w3 ((w3.alloc (.cells #[.int .i64 c.kind, .int .i64 c.a, .int .i64 c.b, .slice A1 n1 p1, .slice A2 n2 p2] 31)).alloc (.cells #[.int .i64 c.kind, .int .i64 c.a, .int .i64 c.b, .slice A1 n1 p1, .slice A2 n2 p2] 31)) := ((Below.refl _ _).alloc (Nat.le_refl _) _).alloc (by simp) _
      have HB4 := hid ((HB.out.trans (HB3.out.mono s1)).trans (hb4.mono (Nat.le_trans s1 s3)))
      have hr4 := HR3.out.move (Fr.of_below hb4)
      have r2 := heap_alloc_new (w3.alloc (.cells #[.int .i64 c.kind, .int .i64 c.a, .int .i64 c.b, .slice A1 n1 p1, .slice A2 n2 p2] 31)) (.cells #[.int .i64 c.kind, .int .i64 c.a, .int .i64 c.b, .slice A1 n1 p1, .slice A2 n2 p2] 31)
      rw [show (w3.alloc (.cells #[.int .i64 c.kind, .int .i64 c.a, .int .i64 c.b, .slice A1 n1 p1, .slice A2 n2 p2] 31)).heap.size = w3.heap.size + 1 by simp] at r2
      have HNews := hid (World.news_of_block r2)
      have hS : w1.heap.size ≤ ((w3.alloc (.cells #[.int .i64 c.kind, .int .i64 c.a, .int .i64 c.b, .slice A1 n1 p1, .slice A2 n2 p2] 31)).alloc (.cells #[.int .i64 c.kind, .int .i64 c.a, .int .i64 c.b, .slice A1 n1 p1, .slice A2 n2 p2] 31)).heap.size := HB4.out.size
      obtain ⟨inner, ho, hcc⟩ := HO.out.below (HB3.out.trans (hb4.mono s3))
      have hlk : (l.take k).length = k := by rw [List.length_take]; omega
      rw [hlk] at ho
      have HOwn := hid ho
      have HCC := hid hcc
      have HR4 := hid hr4
      have HS := hid hS
      have HLK := hid hlk
      clear hb4 hr4 r2 ho hcc hlk hS
      go_wp2_with (at_builtin; refine wpList_append_own _ rfl _ _ 44 rfl w1.heap.size 31 i0 (.agg #[.int .i64 0, .int .i64 0, .int .i64 0, .slice none 0 0, .slice none 0 0]) 5 72 Try.underlying44 HI.out hz0 hz1 hz2 rfl (by decide) u3 k inner ?c1 HOwn.out ⟨w3.heap.size + 1, 0, none⟩ 1 1 [.int .i64 c.kind, .int .i64 c.a, .int .i64 c.b, .slice A1 n1 p1, .slice A2 n2 p2] ?c2 rfl ?c3 ?c4 ?c5 ?c6 HS.out ?_; (case c1 => rfl); (case c2 => rfl); (case c3 => exact HNews.out); (case c4 => simp [Value.oneCell']); (case c5 => unfold maxLen; omega); (case c6 => omega); intro v5 w5 hown hgrow hnil; have HB5 := hid (HB4.out.grown hgrow HS.out (fun x hx => (HOwn.out.lt x hx).1)); have HO5 := hid (Out.grow HLK.out HOwn.out HCC.out hB hgrow hown ⟨_, _, rfl, HR4.out.k, HR4.out.v⟩); clear hown hgrow hnil)
      go_roundw
      case rel => exact ⟨k + 1, by omega, by go_num, HB5, hid (by rw [List.take_add_one, HX.out]; exact HO5.out)⟩
      case measure => simp [intOf]; omega
    · obtain rfl : k = l.length := by omega
      go_wp2_with fail
      rw [List.take_length] at HO
      obtain ⟨A, cap, rfl, -, -⟩ := HO.out.slice
      go_ret
      exact ⟨_, rfl, HB.out, HO.out⟩
end Go.Proofs.Ytljbdmmidajmdaa.Pg
