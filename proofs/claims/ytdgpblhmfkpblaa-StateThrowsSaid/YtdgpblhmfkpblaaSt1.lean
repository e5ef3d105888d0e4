/- The values a function begins with: slots. -/
import Derived.Test.YtdgpblhmfkpblaaSt0
import Derived.Deep.DeepCutAuto
import Derived.Deep.Cut
import Derived.Deep.CutRange
import Derived.Deep.CutBlock
namespace Go.Proofs.Ytdgpblhmfkpblaa.Pg
open Go.RowKit

/-- One of the values a function begins with. -/
def slotD (p : Int) (args : List VD) (i : Nat) : VD := if p ≤ (i : Int) then holeV else args[i]?.getD undefV
def slotsD (p : Int) (n : Nat) (args : List VD) : List VD := (List.range n).map (slotD p args)
/-- A row of values of one's own that grows. -/
def VOut (w : World) (base : Nat) (v : Value) (l : List VD) : Prop := w.ownsRow base 33 3 v l.length (l.map VD.row).flatten
theorem row_flat_length (l : List VD) : (l.map VD.row).flatten.length = l.length * 3 := by
  induction l with
  | nil => rfl
  | cons v l ih => simp only [List.map_cons, List.flatten_cons, List.length_append, ih, List.length_cons]; simp [VD.row]; omega
theorem VOut.nil (w : World) (base : Nat) : VOut w base (.slice none 0 0) [] := World.ownsRow_nil _ _ _ _
theorem VOut.rowR {B : Bd} {w : World} {base : Nat} {v : Value} {l : List VD} (h : VOut w base v l) (hX : ∀ k, B.X k → k < base) : RowR B w 3 v (l.map VD.row) :=
  RowR.of_own h (by decide) hX (fun c hc => by obtain ⟨v, _, rfl⟩ := List.mem_map.1 hc; rfl) (by simp)
theorem VOut.below {w w' : World} {base : Nat} {v : Value} {l : List VD} (h : VOut w base v l) (hb : Below w.heap.size w w') : VOut w' base v l := own_move h (fun k hk => hb.block k (h.lt k hk).2)
theorem VOut.push {w' : World} {base : Nat} {v' : Value} {l : List VD} {x : VD} {k : Nat} (hk : l.length = k) (ho : w'.ownsRow base 33 3 v' (k + 1) ((l.map VD.row).flatten ++ x.row)) : VOut w' base v' (l ++ [x]) := by
  unfold VOut
  rw [List.length_append, hk, List.map_append, List.flatten_append]
  simpa using ho
theorem VOut.slice {w : World} {base : Nat} {v : Value} {l : List VD} (h : VOut w base v l) : ∃ A cap, v = .slice A l.length cap := by
  rcases h.2 with ⟨rfl, h0⟩ | ⟨g, cap, cur, rfl, _⟩
  · exact ⟨none, 0, by rw [h0]⟩
  · exact ⟨_, _, rfl⟩
theorem slotsD_succ (p : Int) (k : Nat) (args : List VD) : slotsD p (k + 1) args = slotsD p k args ++ [slotD p args k] := by
  unfold slotsD
  rw [List.range_succ, List.map_append]
  rfl
theorem slotsD_length (p : Int) (k : Nat) (args : List VD) : (slotsD p k args).length = k := by simp [slotsD]
/-- A value of an argument's row. -/
theorem RowR.val_get {B : Bd} {w : World} {A : Option Addr} {n cap : Nat} {xs : List VD} (h : RowR B w 3 (.slice A n cap) (xs.map VD.row)) : xs.length = n ∧ ∀ i v, xs[i]? = some v →
    ∃ b o, A = some ⟨b, o, none⟩ ∧ w.cell? ⟨b, o + i * 3, none⟩ = some (.int .i64 v.kind) ∧ w.cell? ⟨b, o + i * 3 + 1, none⟩ = some (.int .i64 v.n) ∧ w.cell? ⟨b, o + i * 3 + 2, none⟩ = some (.string v.s) := by
  obtain ⟨A', n', cap', e, hn, h1, h2, h3, h4⟩ := h
  injection e with e1 e2 e3
  subst e1 e2 e3
  rw [List.length_map] at hn
  refine ⟨hn, fun i v hi => ?_⟩
  have hlt := (List.getElem?_eq_some_iff.1 hi).1
  obtain ⟨b, o, e, _, hc⟩ := h4 (by omega)
  have := (hc i v.row (by rw [List.getElem?_map, hi]; rfl)).2
  have q0 := this 0 _ rfl
  have q1 := this 1 _ rfl
  have q2 := this 2 _ rfl
  rw [← Nat.add_assoc] at q0 q1 q2
  exact ⟨b, o, e, q0, q1, q2⟩

set_option maxHeartbeats 3200000 in
set_option maxRecDepth 100000 in
theorem slots_c {B : Bd} {w : World} {f : FunD} {args : List VD} {A : Option Addr} {n cap : Nat} (hr : RowR B w 3 (.slice A n cap) (args.map VD.row)) (hs0 : 0 ≤ f.slots) (hs1 : f.slots ≤ 100000) :
    Calls Try.prog 48 #[.agg #[.string f.name, .int .i64 f.params, .int .i64 f.slots, .bool f.gen, f.code], .slice A n cap] w fun e w' => ∃ v', e = .returned v' ∧ Below w.heap.size w w' ∧ VOut w' w.heap.size v' (slotsD f.params f.slots.toNat args) := by
  obtain ⟨m, hm⟩ := Int.eq_ofNat_of_zero_le hs0
  rw [hm] at hs1 ⊢
  obtain ⟨i0, hi, hz0, hz1, hz2⟩ := info_parts infoVal
  have HI := hid hi
  have HR := hid hr
  have HM := hid hm
  clear hi hr hs0 hm
  have bW : Below w.heap.size w (w.alloc (.cells #[.string f.name, .int .i64 f.params, .int .i64 m, .bool f.gen, f.code] 28)) := (Below.refl _ _).alloc (Nat.le_refl _) _
  have r1 := heap_alloc_new w (.cells #[.string f.name, .int .i64 f.params, .int .i64 m, .bool f.gen, f.code] 28)
  have l1 : w.heap.size < (w.alloc (.cells #[.string f.name, .int .i64 f.params, .int .i64 m, .bool f.gen, f.code] 28)).heap.size := by simp
  have BW := hid bW
  clear bW
  have hmax : max (0 : Int) (m : Int) = (m : Int) := by omega
  go_enter Try.func48, Try.ntmps48
  go_wp2_with fail
  all_goals
    generalize (w.alloc (.cells #[.string f.name, .int .i64 f.params, .int .i64 m, .bool f.gen, f.code] 28)) = W at BW r1 l1 ⊢
    have R1 := hid r1
    clear r1
  rotate_left
  · obtain rfl : m = 0 := by omega
    go_loopw [5, 10] (fun v i wx => v = .slice none 0 0 ∧ i = .int .i64 0 ∧ wx = W) (fun _ _ _ => 0)
    case atStart => exact ⟨rfl, rfl, rfl⟩
    case round =>
      obtain ⟨rfl, rfl, rfl⟩ := hrel
      go_wp2_with fail
      go_ret
      exact ⟨_, rfl, BW.out, World.ownsRow_nil _ _ _ _⟩
  go_loopw [5, 10] (fun v i wx => ∃ k : Nat, k ≤ m ∧ i = .int .i64 k ∧ Box (Below W.heap.size W wx) ∧ Box (VOut wx W.heap.size v (slotsD f.params k args))) (fun _ i _ => m - (RowKit.intOf i).toNat)
  case atStart => exact ⟨0, by omega, rfl, hid (Below.refl _ _), hid (VOut.nil _ _)⟩
  case round =>
    obtain ⟨k, hk, rfl, HB, HO⟩ := hrel
    have s1 := HB.out.size
    rcases Nat.lt_or_ge k m with hlt | hge
    · have hlt' : (k : Int) < (m : Int) := by omega
      have hq := (HB.out.block w.heap.size l1).trans R1.out
      have c1 := cell_of_row _ _ 1 _ _ _ hq
      simp only [List.getElem?_toArray, List.getElem?_cons_zero, List.getElem?_cons_succ] at c1
      rcases (by omega : (k : Int) < f.params ∨ f.params ≤ (k : Int)) with hp | hp
      · rcases Nat.lt_or_ge k args.length with ha | ha
        · have hx : args[k]? = some args[k] := List.getElem?_eq_getElem ha
          generalize args[k] = x at hx
          have HS : slotD f.params args k = x := by simp [slotD, hx]; omega
          obtain ⟨hn, hg⟩ := (HR.out.move (Fr.of_below (BW.out.trans (HB.out.mono (Nat.le_of_lt l1))))).val_get
          obtain ⟨b, o, rfl, y0, y1, y2⟩ := hg k x hx
          have ha' : (k : Int) < (n : Int) := by omega
          clear hg hx hq
          have HO1 := hid (show (wr.alloc (.cells #[.int .i64 x.kind, .int .i64 x.n, .string x.s] 33)).ownsRow W.heap.size 33 3 u5 k ((slotsD f.params k args).map VD.row).flatten by have := HO.out.below ((Below.refl wr.heap.size wr).alloc (Nat.le_refl _) (.cells #[.int .i64 x.kind, .int .i64 x.n, .string x.s] 33)); unfold VOut at this; rwa [slotsD_length] at this)
          go_wp2_with (at_builtin; refine wpList_append_own _ rfl _ _ 31 rfl W.heap.size 33 i0 (.agg #[.int .i64 0, .int .i64 0, .string ByteArray.empty]) 3 32 Try.underlying31 HI.out hz0 hz1 hz2 rfl (by decide) u5 k ((slotsD f.params k args).map VD.row).flatten ?c1 ?c0 ⟨wr.heap.size, 0, none⟩ 1 1 x.row ?c2 rfl ?c3 ?c4 ?c5 ?c6 ?c7 ?_; (case c1 => rfl); (case c0 => exact HO1.out); (case c2 => rfl); (case c3 => exact World.news_of_block (heap_alloc_new wr _)); (case c4 => simp [VD.row, Value.oneCell']); (case c5 => unfold maxLen; omega); (case c6 => omega); (case c7 => simp; omega); intro v5 w5 hown hgrow hnil; have HB5 := hid ((HB.out.trans (((Below.refl wr.heap.size wr).alloc (Nat.le_refl _) _).mono s1)).grown hgrow (by simp; omega) (fun x hx => (HO1.out.lt x hx).1)); have HO5 := hid (VOut.push (slotsD_length _ _ _) hown); clear hown hgrow hnil)
          go_roundw
          case rel => exact ⟨k + 1, by omega, by go_num, HB5, hid (by rw [slotsD_succ, HS]; exact HO5.out)⟩
          case measure => simp [RowKit.intOf]; omega
        · have HS : slotD f.params args k = undefV := by simp [slotD, ha]; omega
          have hn := HR.out.val_get.1
          have ha' : (n : Int) ≤ (k : Int) := by omega
          clear hq
          have HO1 := hid (show (wr.alloc (.cells #[.int .i64 0, .int .i64 0, .string ⟨#[]⟩] 33)).ownsRow W.heap.size 33 3 u5 k ((slotsD f.params k args).map VD.row).flatten by have := HO.out.below ((Below.refl wr.heap.size wr).alloc (Nat.le_refl _) (.cells #[.int .i64 0, .int .i64 0, .string ⟨#[]⟩] 33)); unfold VOut at this; rwa [slotsD_length] at this)
          go_wp2_with (at_builtin; refine wpList_append_own _ rfl _ _ 31 rfl W.heap.size 33 i0 (.agg #[.int .i64 0, .int .i64 0, .string ByteArray.empty]) 3 32 Try.underlying31 HI.out hz0 hz1 hz2 rfl (by decide) u5 k ((slotsD f.params k args).map VD.row).flatten ?c1 ?c0 ⟨wr.heap.size, 0, none⟩ 1 1 undefV.row ?c2 rfl ?c3 ?c4 ?c5 ?c6 ?c7 ?_; (case c1 => rfl); (case c0 => exact HO1.out); (case c2 => rfl); (case c3 => exact World.news_of_block (heap_alloc_new wr _)); (case c4 => simp [VD.row, Value.oneCell']); (case c5 => unfold maxLen; omega); (case c6 => omega); (case c7 => simp; omega); intro v5 w5 hown hgrow hnil; have HB5 := hid ((HB.out.trans (((Below.refl wr.heap.size wr).alloc (Nat.le_refl _) _).mono s1)).grown hgrow (by simp; omega) (fun x hx => (HO1.out.lt x hx).1)); have HO5 := hid (VOut.push (slotsD_length _ _ _) hown); clear hown hgrow hnil)
          go_roundw
          case rel => exact ⟨k + 1, by omega, by go_num, HB5, hid (by rw [slotsD_succ, HS]; exact HO5.out)⟩
          case measure => simp [RowKit.intOf]; omega
      · have HS : slotD f.params args k = holeV := by simp [slotD]; omega
        clear hq
        have HO1 := hid (show (wr.alloc (.cells #[.int .i64 7, .int .i64 0, .string ⟨#[]⟩] 33)).ownsRow W.heap.size 33 3 u5 k ((slotsD f.params k args).map VD.row).flatten by have := HO.out.below ((Below.refl wr.heap.size wr).alloc (Nat.le_refl _) (.cells #[.int .i64 7, .int .i64 0, .string ⟨#[]⟩] 33)); unfold VOut at this; rwa [slotsD_length] at this)
        go_wp2_with (at_builtin; refine wpList_append_own _ rfl _ _ 31 rfl W.heap.size 33 i0 (.agg #[.int .i64 0, .int .i64 0, .string ByteArray.empty]) 3 32 Try.underlying31 HI.out hz0 hz1 hz2 rfl (by decide) u5 k ((slotsD f.params k args).map VD.row).flatten ?c1 ?c0 ⟨wr.heap.size, 0, none⟩ 1 1 holeV.row ?c2 rfl ?c3 ?c4 ?c5 ?c6 ?c7 ?_; (case c1 => rfl); (case c0 => exact HO1.out); (case c2 => rfl); (case c3 => exact World.news_of_block (heap_alloc_new wr _)); (case c4 => simp [VD.row, Value.oneCell']); (case c5 => unfold maxLen; omega); (case c6 => omega); (case c7 => simp; omega); intro v5 w5 hown hgrow hnil; have HB5 := hid ((HB.out.trans (((Below.refl wr.heap.size wr).alloc (Nat.le_refl _) _).mono s1)).grown hgrow (by simp; omega) (fun x hx => (HO1.out.lt x hx).1)); have HO5 := hid (VOut.push (slotsD_length _ _ _) hown); clear hown hgrow hnil)
        go_roundw
        case rel => exact ⟨k + 1, by omega, by go_num, HB5, hid (by rw [slotsD_succ, HS]; exact HO5.out)⟩
        case measure => simp [RowKit.intOf]; omega
    · obtain rfl : k = m := by omega
      go_wp2_with fail
      obtain ⟨A1, p1, rfl⟩ := HO.out.slice
      go_ret
      exact ⟨_, rfl, BW.out.trans (HB.out.mono (Nat.le_of_lt l1)), own_lower HO.out (Nat.le_of_lt l1)⟩
end Go.Proofs.Ytdgpblhmfkpblaa.Pg
