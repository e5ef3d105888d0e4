/- Contracts of copied: a row in memory of its own. -/
import Derived.Test.YtdgpblhmfkpblaaSt1
namespace Go.Proofs.Ytdgpblhmfkpblaa.Pg
open Go.RowKit

/-- A row of one's own that grows. -/
def ROut (w : World) (base T sz : Nat) (v : Value) (rows : List (List Value)) : Prop := w.ownsRow base T sz v rows.length rows.flatten
section
variable {w w' : World} {base T sz : Nat} {v v' : Value} {rows : List (List Value)}
theorem ROut.nil (w : World) (base T sz : Nat) : ROut w base T sz (.slice none 0 0) [] := World.ownsRow_nil _ _ _ _
theorem ROut.below (h : ROut w base T sz v rows) (hb : Below w.heap.size w w') : ROut w' base T sz v rows := own_move h (fun k hk => hb.block k (h.lt k hk).2)
theorem ROut.push {r : List Value} {k : Nat} (hk : rows.length = k) (ho : w'.ownsRow base T sz v' (k + 1) (rows.flatten ++ r)) : ROut w' base T sz v' (rows ++ [r]) := by
  unfold ROut
  rw [List.length_append, hk, List.flatten_append]
  simpa using ho
theorem ROut.slice (h : ROut w base T sz v rows) : ∃ A cap, v = .slice A rows.length cap := by
  rcases h.2 with ⟨rfl, h0⟩ | ⟨g, cap, cur, rfl, _⟩
  · exact ⟨none, 0, by rw [h0]⟩
  · exact ⟨_, _, rfl⟩
theorem ROut.low {base' : Nat} (h : ROut w base T sz v rows) (hb : base' ≤ base) : ROut w base' T sz v rows := own_lower h hb
theorem ROut.rowR {B : Bd} (h : ROut w base T sz v rows) (hT : immT T = true) (hX : ∀ k, B.X k → k < base) (hr : ∀ c ∈ rows, c.length = sz) : RowR B w sz v rows := RowR.of_own h hT hX hr rfl
end
/-- One row of a slice that reads as rows. -/
theorem RowR.get {B : Bd} {w : World} {sz : Nat} {A : Option Addr} {n cap : Nat} {rows : List (List Value)} (h : RowR B w sz (.slice A n cap) rows) : rows.length = n ∧ n ≤ maxLen ∧ ∀ i c, rows[i]? = some c →
    ∃ b o, A = some ⟨b, o, none⟩ ∧ c.length = sz ∧ ∀ j u, c[j]? = some u → w.cell? ⟨b, o + i * sz + j, none⟩ = some u := by
  obtain ⟨A', n', cap', e, hn, h1, h2, h3, h4⟩ := h
  injection e with e1 e2 e3
  subst e1 e2 e3
  refine ⟨hn, by omega, fun i c hi => ?_⟩
  have hlt := (List.getElem?_eq_some_iff.1 hi).1
  obtain ⟨b, o, e, _, hc⟩ := h4 (by omega)
  have := hc i c hi
  exact ⟨b, o, e, this.1, fun j u hu => by rw [Nat.add_assoc]; exact this.2 j u hu⟩
/-- A row that one owns reads as rows, till one writes to it. -/
def here (w : World) : Bd := ⟨w.heap.size, fun _ => False⟩
theorem RowR.own_here {w : World} {base T sz n : Nat} {v : Value} {rows : List (List Value)} (h : w.ownsRow base T sz v n rows.flatten) (hr : ∀ c ∈ rows, c.length = sz) (hn : rows.length = n) : RowR (here w) w sz v rows := by
  obtain ⟨_, h | ⟨g, cap, cur, e, hb, hg, hnc, hcm, hs, ht⟩⟩ := h
  · obtain ⟨rfl, rfl⟩ := h
    have : rows = [] := List.length_eq_zero_iff.1 hn
    subst this
    exact RowR.nil _ w sz
  · refine ⟨_, n, cap, e, hn, hnc, hcm, fun h => (by cases h), fun _ => ⟨g, 0, rfl, ⟨(Array.getElem?_eq_some_iff.1 hg).1, .inl (Array.getElem?_eq_some_iff.1 hg).1⟩, fun j c hj => ⟨hr c (List.mem_of_getElem? hj), fun i u hu => ?_⟩⟩⟩
    have hf := flat_get rows hr j c i u hj hu
    have hlt := (List.getElem?_eq_some_iff.1 hf).1
    rw [flat_length rows hr, hn] at hlt
    rw [Nat.zero_add, cell_of_row w g _ cur T (0, 0) hg]
    rw [← ht, List.getElem?_take] at hf
    rw [if_pos hlt] at hf
    simpa using hf
theorem RowR.here {B : Bd} {w : World} {sz : Nat} {v : Value} {rows : List (List Value)} (h : RowR B w sz v rows) : RowR (here w) w sz v rows := by
  obtain ⟨A, n, cap, h1, h2, h3, h4, h5, h6⟩ := h
  refine ⟨A, n, cap, h1, h2, h3, h4, h5, fun h0 => ?_⟩
  obtain ⟨b, o, e, hi, hc⟩ := h6 h0
  exact ⟨b, o, e, ⟨hi.1, .inl hi.1⟩, hc⟩

set_option maxHeartbeats 800000 in
set_option maxRecDepth 100000 in
theorem asVal_c {w : World} (x : VD) : Calls Try.prog 95 #[.agg #[.int .i64 x.kind, .int .i64 x.n, .string x.s]] w fun e w' => e = .returned (.agg #[.int .i64 x.kind, .int .i64 x.n, .string x.s]) ∧ Below w.heap.size w w' := by
  go_enter Try.func95, Try.ntmps95
  go_wp2
  have r := heap_alloc_new (w.alloc (.cells #[.int .i64 x.kind, .int .i64 x.n, .string x.s] 33)) (.cells #[.int .i64 x.kind, .int .i64 x.n, .string x.s] 33)
  rw [show (w.alloc (.cells #[.int .i64 x.kind, .int .i64 x.n, .string x.s] 33)).heap.size = w.heap.size + 1 by simp] at r
  have y0 := cell_of_row _ _ 0 _ _ _ r
  have y1 := cell_of_row _ _ 1 _ _ _ r
  have y2 := cell_of_row _ _ 2 _ _ _ r
  simp only [List.getElem?_toArray, List.getElem?_cons_zero, List.getElem?_cons_succ] at y0 y1 y2
  refine bodyPost_ret (v := .agg #[.int .i64 x.kind, .int .i64 x.n, .string x.s]) (by simp [results, Try.results95, go_sem, y0, y1, y2]) rfl ?_
  exact ⟨rfl, ((Below.refl _ _).alloc (Nat.le_refl _) _).alloc (by simp) _⟩
set_option maxHeartbeats 3200000 in
set_option maxRecDepth 100000 in
theorem copiedVal_c {B : Bd} {w : World} {xs : List VD} {A : Option Addr} {n cap : Nat} (hr : RowR B w 3 (.slice A n cap) (xs.map VD.row)) (hn1 : n ≤ 100000) :
    Calls Try.prog 94 #[.slice A n cap, .func (.func 95) #[] #[]] w fun e w' => ∃ v', e = .returned v' ∧ Below w.heap.size w w' ∧ ROut w' w.heap.size 33 3 v' (xs.map VD.row) := by
  obtain ⟨i0, hi, hz0, hz1, hz2⟩ := info_parts infoVal
  have HI := hid hi
  have HR := hid hr
  have hn := hr.get.1
  rw [List.length_map] at hn
  clear hi hr
  go_enter Try.func94, Try.ntmps94
  go_wp2_with fail
  go_loopw [5, 10] (fun v i wx => ∃ k : Nat, k ≤ n ∧ i = .int .i64 k ∧ Box (Below w.heap.size w wx) ∧ Box (ROut wx w.heap.size 33 3 v ((xs.map VD.row).take k))) (fun _ i _ => n - (RowKit.intOf i).toNat)
  case atStart => exact ⟨0, by omega, rfl, hid (Below.refl _ _), hid (ROut.nil _ _ _ _)⟩
  case round =>
    obtain ⟨k, hk, rfl, HB, HO⟩ := hrel
    have s1 := HB.out.size
    rcases Nat.lt_or_ge k n with hlt | hge
    · have hlt' : (k : Int) < (n : Int) := by omega
      have hx : xs[k]? = some xs[k] := List.getElem?_eq_getElem (by omega)
      generalize xs[k] = x at hx
      have hxr : (xs.map VD.row)[k]? = some x.row := by rw [List.getElem?_map, hx]; rfl
      obtain ⟨b, o, rfl, -, hc⟩ := (HR.out.move (Fr.of_below HB.out)).get.2.2 k _ hxr
      have y0 := hc 0 _ rfl
      have y1 := hc 1 _ rfl
      have y2 := hc 2 _ rfl
      have HX := hid hxr
      clear hc hxr hx
      simp only [Nat.add_zero] at y0
      go_wp2_with fail
      refine (asVal_c x).mono ?_
      rintro e w2 ⟨rfl, hb2⟩
      have hbx : Below w.heap.size w w2 := (HB.out.trans (((Below.refl wr.heap.size wr).alloc (Nat.le_refl _) _).mono s1)).trans (hb2.mono (by simp; omega))
      have hb3 : Below wr.heap.size wr w2 := ((Below.refl wr.heap.size wr).alloc (Nat.le_refl _) _).trans (hb2.mono (by simp))
      have HB2 := hid hbx
      have HO1 := hid (show (w2.alloc (.cells #[.int .i64 x.kind, .int .i64 x.n, .string x.s] 33)).ownsRow w.heap.size 33 3 u5 k ((xs.map VD.row).take k).flatten by have := (HO.out.below hb3).below ((Below.refl w2.heap.size w2).alloc (Nat.le_refl _) (.cells #[.int .i64 x.kind, .int .i64 x.n, .string x.s] 33)); unfold ROut at this; rwa [List.length_take, List.length_map, Nat.min_eq_left (by omega)] at this)
      have s2 := hbx.size
      clear hb2 hbx hb3
      go_wp2_with (at_builtin; refine wpList_append_own _ rfl _ _ 31 rfl w.heap.size 33 i0 (.agg #[.int .i64 0, .int .i64 0, .string ByteArray.empty]) 3 32 Try.underlying31 HI.out hz0 hz1 hz2 rfl (by decide) u5 k ((xs.map VD.row).take k).flatten ?c1 ?c0 ⟨w2.heap.size, 0, none⟩ 1 1 x.row ?c2 rfl ?c3 ?c4 ?c5 ?c6 ?c7 ?_; (case c1 => rfl); (case c0 => exact HO1.out); (case c2 => rfl); (case c3 => exact World.news_of_block (heap_alloc_new w2 _)); (case c4 => simp [VD.row, Value.oneCell']); (case c5 => unfold maxLen; omega); (case c6 => omega); (case c7 => simp; omega); intro v5 w5 hown hgrow hnil; have HB5 := hid ((HB2.out.trans (((Below.refl w2.heap.size w2).alloc (Nat.le_refl _) _).mono s2)).grown hgrow (by simp; omega) (fun x hx => (HO1.out.lt x hx).1)); have HO5 := hid (ROut.push (by rw [List.length_take, List.length_map]; omega) hown); clear hown hgrow hnil)
      go_roundw
      case rel => exact ⟨k + 1, by omega, by go_num, HB5, hid (by rw [List.take_add_one, HX.out]; exact HO5.out)⟩
      case measure => simp [RowKit.intOf]; omega
    · obtain rfl : k = n := by omega
      go_wp2_with fail
      rw [List.take_of_length_le (by rw [List.length_map]; omega)] at HO
      obtain ⟨A1, p1, rfl⟩ := HO.out.slice
      go_ret
      exact ⟨_, rfl, HB.out, HO.out⟩
theorem infoTry : (Try.prog.info? 57).map (fun i => (i.zero, i.size, i.bytes)) = some (some (.agg #[.int .i64 0, .int .i64 0, .int .i64 0]), 3, 24) := by kernel_rfl
set_option maxHeartbeats 800000 in
set_option maxRecDepth 100000 in
theorem asTry_c {w : World} (x : TrD) : Calls Try.prog 115 #[.agg #[.int .i64 x.pc, .int .i64 x.vals, .int .i64 x.scope]] w fun e w' => e = .returned (.agg #[.int .i64 x.pc, .int .i64 x.vals, .int .i64 x.scope]) ∧ Below w.heap.size w w' := by
  go_enter Try.func115, Try.ntmps115
  go_wp2
  have r := heap_alloc_new (w.alloc (.cells #[.int .i64 x.pc, .int .i64 x.vals, .int .i64 x.scope] 57)) (.cells #[.int .i64 x.pc, .int .i64 x.vals, .int .i64 x.scope] 57)
  rw [show (w.alloc (.cells #[.int .i64 x.pc, .int .i64 x.vals, .int .i64 x.scope] 57)).heap.size = w.heap.size + 1 by simp] at r
  have y0 := cell_of_row _ _ 0 _ _ _ r
  have y1 := cell_of_row _ _ 1 _ _ _ r
  have y2 := cell_of_row _ _ 2 _ _ _ r
  simp only [List.getElem?_toArray, List.getElem?_cons_zero, List.getElem?_cons_succ] at y0 y1 y2
  refine bodyPost_ret (v := .agg #[.int .i64 x.pc, .int .i64 x.vals, .int .i64 x.scope]) (by simp [results, Try.results115, go_sem, y0, y1, y2]) rfl ?_
  exact ⟨rfl, ((Below.refl _ _).alloc (Nat.le_refl _) _).alloc (by simp) _⟩
set_option maxHeartbeats 3200000 in
set_option maxRecDepth 100000 in
theorem copiedTry_c {B : Bd} {w : World} {xs : List TrD} {A : Option Addr} {n cap : Nat} (hr : RowR B w 3 (.slice A n cap) (xs.map TrD.row)) (hn1 : n ≤ 100000) :
    Calls Try.prog 114 #[.slice A n cap, .func (.func 115) #[] #[]] w fun e w' => ∃ v', e = .returned v' ∧ Below w.heap.size w w' ∧ ROut w' w.heap.size 57 3 v' (xs.map TrD.row) := by
  obtain ⟨i0, hi, hz0, hz1, hz2⟩ := info_parts infoTry
  have HI := hid hi
  have HR := hid hr
  have hn := hr.get.1
  rw [List.length_map] at hn
  clear hi hr
  go_enter Try.func114, Try.ntmps114
  go_wp2_with fail
  go_loopw [5, 10] (fun v i wx => ∃ k : Nat, k ≤ n ∧ i = .int .i64 k ∧ Box (Below w.heap.size w wx) ∧ Box (ROut wx w.heap.size 57 3 v ((xs.map TrD.row).take k))) (fun _ i _ => n - (RowKit.intOf i).toNat)
  case atStart => exact ⟨0, by omega, rfl, hid (Below.refl _ _), hid (ROut.nil _ _ _ _)⟩
  case round =>
    obtain ⟨k, hk, rfl, HB, HO⟩ := hrel
    have s1 := HB.out.size
    rcases Nat.lt_or_ge k n with hlt | hge
    · have hlt' : (k : Int) < (n : Int) := by omega
      have hx : xs[k]? = some xs[k] := List.getElem?_eq_getElem (by omega)
      generalize xs[k] = x at hx
      have hxr : (xs.map TrD.row)[k]? = some x.row := by rw [List.getElem?_map, hx]; rfl
      obtain ⟨b, o, rfl, -, hc⟩ := (HR.out.move (Fr.of_below HB.out)).get.2.2 k _ hxr
      have y0 := hc 0 _ rfl
      have y1 := hc 1 _ rfl
      have y2 := hc 2 _ rfl
      have HX := hid hxr
      clear hc hxr hx
      simp only [Nat.add_zero] at y0
      go_wp2_with fail
      refine (asTry_c x).mono ?_
      rintro e w2 ⟨rfl, hb2⟩
      have hbx : Below w.heap.size w w2 := (HB.out.trans (((Below.refl wr.heap.size wr).alloc (Nat.le_refl _) _).mono s1)).trans (hb2.mono (by simp; omega))
      have hb3 : Below wr.heap.size wr w2 := ((Below.refl wr.heap.size wr).alloc (Nat.le_refl _) _).trans (hb2.mono (by simp))
      have HB2 := hid hbx
      have HO1 := hid (show (w2.alloc (.cells #[.int .i64 x.pc, .int .i64 x.vals, .int .i64 x.scope] 57)).ownsRow w.heap.size 57 3 u5 k ((xs.map TrD.row).take k).flatten by have := (HO.out.below hb3).below ((Below.refl w2.heap.size w2).alloc (Nat.le_refl _) (.cells #[.int .i64 x.pc, .int .i64 x.vals, .int .i64 x.scope] 57)); unfold ROut at this; rwa [List.length_take, List.length_map, Nat.min_eq_left (by omega)] at this)
      have s2 := hbx.size
      clear hb2 hbx hb3
      go_wp2_with (at_builtin; refine wpList_append_own _ rfl _ _ 48 rfl w.heap.size 57 i0 (.agg #[.int .i64 0, .int .i64 0, .int .i64 0]) 3 24 Try.underlying48 HI.out hz0 hz1 hz2 rfl (by decide) u5 k ((xs.map TrD.row).take k).flatten ?c1 ?c0 ⟨w2.heap.size, 0, none⟩ 1 1 x.row ?c2 rfl ?c3 ?c4 ?c5 ?c6 ?c7 ?_; (case c1 => rfl); (case c0 => exact HO1.out); (case c2 => rfl); (case c3 => exact World.news_of_block (heap_alloc_new w2 _)); (case c4 => simp [TrD.row, Value.oneCell']); (case c5 => unfold maxLen; omega); (case c6 => omega); (case c7 => simp; omega); intro v5 w5 hown hgrow hnil; have HB5 := hid ((HB2.out.trans (((Below.refl w2.heap.size w2).alloc (Nat.le_refl _) _).mono s2)).grown hgrow (by simp; omega) (fun x hx => (HO1.out.lt x hx).1)); have HO5 := hid (ROut.push (by rw [List.length_take, List.length_map]; omega) hown); clear hown hgrow hnil)
      go_roundw
      case rel => exact ⟨k + 1, by omega, by go_num, HB5, hid (by rw [List.take_add_one, HX.out]; exact HO5.out)⟩
      case measure => simp [RowKit.intOf]; omega
    · obtain rfl : k = n := by omega
      go_wp2_with fail
      rw [List.take_of_length_le (by rw [List.length_map]; omega)] at HO
      obtain ⟨A1, p1, rfl⟩ := HO.out.slice
      go_ret
      exact ⟨_, rfl, HB.out, HO.out⟩
theorem infoJob : (Try.prog.info? 69).map (fun i => (i.zero, i.size, i.bytes)) = some (some (.agg #[.int .i64 0, .int .i64 0, .string ByteArray.empty, .int .i64 0, .int .i64 0, .string ByteArray.empty, .int .i64 0, .bool false]), 8, 80) := by kernel_rfl
set_option maxHeartbeats 800000 in
set_option maxRecDepth 100000 in
theorem asJob_c {w : World} (x : JobD) : Calls Try.prog 89 #[.agg #[.int .i64 x.fn.kind, .int .i64 x.fn.n, .string x.fn.s, .int .i64 x.arg.kind, .int .i64 x.arg.n, .string x.arg.s, .int .i64 x.child, .bool x.kept]] w fun e w' => e = .returned (.agg #[.int .i64 x.fn.kind, .int .i64 x.fn.n, .string x.fn.s, .int .i64 x.arg.kind, .int .i64 x.arg.n, .string x.arg.s, .int .i64 x.child, .bool x.kept]) ∧ Below w.heap.size w w' := by
  go_enter Try.func89, Try.ntmps89
  go_wp2
  have r := heap_alloc_new (w.alloc (.cells #[.int .i64 x.fn.kind, .int .i64 x.fn.n, .string x.fn.s, .int .i64 x.arg.kind, .int .i64 x.arg.n, .string x.arg.s, .int .i64 x.child, .bool x.kept] 69)) (.cells #[.int .i64 x.fn.kind, .int .i64 x.fn.n, .string x.fn.s, .int .i64 x.arg.kind, .int .i64 x.arg.n, .string x.arg.s, .int .i64 x.child, .bool x.kept] 69)
  rw [show (w.alloc (.cells #[.int .i64 x.fn.kind, .int .i64 x.fn.n, .string x.fn.s, .int .i64 x.arg.kind, .int .i64 x.arg.n, .string x.arg.s, .int .i64 x.child, .bool x.kept] 69)).heap.size = w.heap.size + 1 by simp] at r
  have y0 := cell_of_row _ _ 0 _ _ _ r
  have y1 := cell_of_row _ _ 1 _ _ _ r
  have y2 := cell_of_row _ _ 2 _ _ _ r
  have y3 := cell_of_row _ _ 3 _ _ _ r
  have y4 := cell_of_row _ _ 4 _ _ _ r
  have y5 := cell_of_row _ _ 5 _ _ _ r
  have y6 := cell_of_row _ _ 6 _ _ _ r
  have y7 := cell_of_row _ _ 7 _ _ _ r
  simp only [List.getElem?_toArray, List.getElem?_cons_zero, List.getElem?_cons_succ] at y0 y1 y2 y3 y4 y5 y6 y7
  refine bodyPost_ret (v := .agg #[.int .i64 x.fn.kind, .int .i64 x.fn.n, .string x.fn.s, .int .i64 x.arg.kind, .int .i64 x.arg.n, .string x.arg.s, .int .i64 x.child, .bool x.kept]) (by simp [results, Try.results89, go_sem, y0, y1, y2, y3, y4, y5, y6, y7]) rfl ?_
  exact ⟨rfl, ((Below.refl _ _).alloc (Nat.le_refl _) _).alloc (by simp) _⟩
set_option maxHeartbeats 3200000 in
set_option maxRecDepth 100000 in
theorem copiedJob_c {B : Bd} {w : World} {xs : List JobD} {A : Option Addr} {n cap : Nat} (hr : RowR B w 8 (.slice A n cap) (xs.map JobD.row)) (hn1 : n ≤ 100000) :
    Calls Try.prog 88 #[.slice A n cap, .func (.func 89) #[] #[]] w fun e w' => ∃ v', e = .returned v' ∧ Below w.heap.size w w' ∧ ROut w' w.heap.size 69 8 v' (xs.map JobD.row) := by
  obtain ⟨i0, hi, hz0, hz1, hz2⟩ := info_parts infoJob
  have HI := hid hi
  have HR := hid hr
  have hn := hr.get.1
  rw [List.length_map] at hn
  clear hi hr
  go_enter Try.func88, Try.ntmps88
  go_wp2_with fail
  go_loopw [5, 10] (fun v i wx => ∃ k : Nat, k ≤ n ∧ i = .int .i64 k ∧ Box (Below w.heap.size w wx) ∧ Box (ROut wx w.heap.size 69 8 v ((xs.map JobD.row).take k))) (fun _ i _ => n - (RowKit.intOf i).toNat)
  case atStart => exact ⟨0, by omega, rfl, hid (Below.refl _ _), hid (ROut.nil _ _ _ _)⟩
  case round =>
    obtain ⟨k, hk, rfl, HB, HO⟩ := hrel
    have s1 := HB.out.size
    rcases Nat.lt_or_ge k n with hlt | hge
    · have hlt' : (k : Int) < (n : Int) := by omega
      have hx : xs[k]? = some xs[k] := List.getElem?_eq_getElem (by omega)
      generalize xs[k] = x at hx
      have hxr : (xs.map JobD.row)[k]? = some x.row := by rw [List.getElem?_map, hx]; rfl
      obtain ⟨b, o, rfl, -, hc⟩ := (HR.out.move (Fr.of_below HB.out)).get.2.2 k _ hxr
      have y0 := hc 0 _ rfl
      have y1 := hc 1 _ rfl
      have y2 := hc 2 _ rfl
      have y3 := hc 3 _ rfl
      have y4 := hc 4 _ rfl
      have y5 := hc 5 _ rfl
      have y6 := hc 6 _ rfl
      have y7 := hc 7 _ rfl
      have HX := hid hxr
      clear hc hxr hx
      simp only [Nat.add_zero] at y0
      go_wp2_with fail
      refine (asJob_c x).mono ?_
      rintro e w2 ⟨rfl, hb2⟩
      have hbx : Below w.heap.size w w2 := (HB.out.trans (((Below.refl wr.heap.size wr).alloc (Nat.le_refl _) _).mono s1)).trans (hb2.mono (by simp; omega))
      have hb3 : Below wr.heap.size wr w2 := ((Below.refl wr.heap.size wr).alloc (Nat.le_refl _) _).trans (hb2.mono (by simp))
      have HB2 := hid hbx
      have HO1 := hid (show (w2.alloc (.cells #[.int .i64 x.fn.kind, .int .i64 x.fn.n, .string x.fn.s, .int .i64 x.arg.kind, .int .i64 x.arg.n, .string x.arg.s, .int .i64 x.child, .bool x.kept] 69)).ownsRow w.heap.size 69 8 u5 k ((xs.map JobD.row).take k).flatten by have := (HO.out.below hb3).below ((Below.refl w2.heap.size w2).alloc (Nat.le_refl _) (.cells #[.int .i64 x.fn.kind, .int .i64 x.fn.n, .string x.fn.s, .int .i64 x.arg.kind, .int .i64 x.arg.n, .string x.arg.s, .int .i64 x.child, .bool x.kept] 69)); unfold ROut at this; rwa [List.length_take, List.length_map, Nat.min_eq_left (by omega)] at this)
      have s2 := hbx.size
      clear hb2 hbx hb3
      go_wp2_with (at_builtin; refine wpList_append_own _ rfl _ _ 39 rfl w.heap.size 69 i0 (.agg #[.int .i64 0, .int .i64 0, .string ByteArray.empty, .int .i64 0, .int .i64 0, .string ByteArray.empty, .int .i64 0, .bool false]) 8 80 Try.underlying39 HI.out hz0 hz1 hz2 rfl (by decide) u5 k ((xs.map JobD.row).take k).flatten ?c1 ?c0 ⟨w2.heap.size, 0, none⟩ 1 1 x.row ?c2 rfl ?c3 ?c4 ?c5 ?c6 ?c7 ?_; (case c1 => rfl); (case c0 => exact HO1.out); (case c2 => rfl); (case c3 => exact World.news_of_block (heap_alloc_new w2 _)); (case c4 => simp [JobD.row, VD.row, Value.oneCell']); (case c5 => unfold maxLen; omega); (case c6 => omega); (case c7 => simp; omega); intro v5 w5 hown hgrow hnil; have HB5 := hid ((HB2.out.trans (((Below.refl w2.heap.size w2).alloc (Nat.le_refl _) _).mono s2)).grown hgrow (by simp; omega) (fun x hx => (HO1.out.lt x hx).1)); have HO5 := hid (ROut.push (by rw [List.length_take, List.length_map]; omega) hown); clear hown hgrow hnil)
      go_roundw
      case rel => exact ⟨k + 1, by omega, by go_num, HB5, hid (by rw [List.take_add_one, HX.out]; exact HO5.out)⟩
      case measure => simp [RowKit.intOf]; omega
    · obtain rfl : k = n := by omega
      go_wp2_with fail
      rw [List.take_of_length_le (by rw [List.length_map]; omega)] at HO
      obtain ⟨A1, p1, rfl⟩ := HO.out.slice
      go_ret
      exact ⟨_, rfl, HB.out, HO.out⟩
set_option maxHeartbeats 800000 in
set_option maxRecDepth 100000 in
theorem asStr_c {w : World} (x : ByteArray) : Calls Try.prog 97 #[.string x] w fun e w' => e = .returned (.string x) ∧ Below w.heap.size w w' := by
  go_enter Try.func97, Try.ntmps97
  go_wp2
  go_ret
  exact ⟨rfl, Below.refl _ _⟩
set_option maxHeartbeats 3200000 in
set_option maxRecDepth 100000 in
theorem copiedStr_c {B : Bd} {w : World} {xs : List ByteArray} {A : Option Addr} {n cap : Nat} (hr : RowR B w 1 (.slice A n cap) (xs.map keyRow)) (hn1 : n ≤ 100000) :
    Calls Try.prog 96 #[.slice A n cap, .func (.func 97) #[] #[]] w fun e w' => ∃ v', e = .returned v' ∧ Below w.heap.size w w' ∧ ROut w' w.heap.size 9 1 v' (xs.map keyRow) := by
  obtain ⟨i0, hi, hz0, hz1, hz2⟩ := info_parts infoStr
  have HI := hid hi
  have HR := hid hr
  have hn := hr.get.1
  rw [List.length_map] at hn
  clear hi hr
  go_enter Try.func96, Try.ntmps96
  go_wp2_with fail
  go_loopw [5, 10] (fun v i wx => ∃ k : Nat, k ≤ n ∧ i = .int .i64 k ∧ Box (Below w.heap.size w wx) ∧ Box (ROut wx w.heap.size 9 1 v ((xs.map keyRow).take k))) (fun _ i _ => n - (RowKit.intOf i).toNat)
  case atStart => exact ⟨0, by omega, rfl, hid (Below.refl _ _), hid (ROut.nil _ _ _ _)⟩
  case round =>
    obtain ⟨k, hk, rfl, HB, HO⟩ := hrel
    have s1 := HB.out.size
    rcases Nat.lt_or_ge k n with hlt | hge
    · have hlt' : (k : Int) < (n : Int) := by omega
      have hx : xs[k]? = some xs[k] := List.getElem?_eq_getElem (by omega)
      generalize xs[k] = x at hx
      have hxr : (xs.map keyRow)[k]? = some (keyRow x) := by rw [List.getElem?_map, hx]; rfl
      obtain ⟨b, o, rfl, -, hc⟩ := (HR.out.move (Fr.of_below HB.out)).get.2.2 k _ hxr
      have y0 := hc 0 _ rfl
      have HX := hid hxr
      clear hc hxr hx
      simp only [Nat.mul_one, Nat.add_zero] at y0
      go_wp2_with fail
      refine (asStr_c x).mono ?_
      rintro e w2 ⟨rfl, hb2⟩
      have hbx : Below w.heap.size w w2 := HB.out.trans (hb2.mono s1)
      have hb3 : Below wr.heap.size wr w2 := hb2
      have HB2 := hid hbx
      have HO1 := hid (show (w2.alloc (.cells #[.string x] 9)).ownsRow w.heap.size 9 1 u5 k ((xs.map keyRow).take k).flatten by have := (HO.out.below hb3).below ((Below.refl w2.heap.size w2).alloc (Nat.le_refl _) (.cells #[.string x] 9)); unfold ROut at this; rwa [List.length_take, List.length_map, Nat.min_eq_left (by omega)] at this)
      have s2 := hbx.size
      clear hb2 hbx hb3
      go_wp2_with (at_builtin; refine wpList_append_own _ rfl _ _ 42 rfl w.heap.size 9 i0 (.string ByteArray.empty) 1 16 Try.underlying42 HI.out hz0 hz1 hz2 rfl (by decide) u5 k ((xs.map keyRow).take k).flatten ?c1 ?c0 ⟨w2.heap.size, 0, none⟩ 1 1 (keyRow x) ?c2 rfl ?c3 ?c4 ?c5 ?c6 ?c7 ?_; (case c1 => rfl); (case c0 => exact HO1.out); (case c2 => rfl); (case c3 => exact World.news_of_block (heap_alloc_new w2 _)); (case c4 => simp [keyRow, Value.oneCell']); (case c5 => unfold maxLen; omega); (case c6 => omega); (case c7 => simp; omega); intro v5 w5 hown hgrow hnil; have HB5 := hid ((HB2.out.trans (((Below.refl w2.heap.size w2).alloc (Nat.le_refl _) _).mono s2)).grown hgrow (by simp; omega) (fun x hx => (HO1.out.lt x hx).1)); have HO5 := hid (ROut.push (by rw [List.length_take, List.length_map]; omega) hown); clear hown hgrow hnil)
      go_roundw
      case rel => exact ⟨k + 1, by omega, by go_num, HB5, hid (by rw [List.take_add_one, HX.out]; exact HO5.out)⟩
      case measure => simp [RowKit.intOf]; omega
    · obtain rfl : k = n := by omega
      go_wp2_with fail
      rw [List.take_of_length_le (by rw [List.length_map]; omega)] at HO
      obtain ⟨A1, p1, rfl⟩ := HO.out.slice
      go_ret
      exact ⟨_, rfl, HB.out, HO.out⟩
set_option maxHeartbeats 800000 in
set_option maxRecDepth 100000 in
theorem copiedTimer_nil (w : World) : Calls Try.prog 90 #[.slice none 0 0, .func (.func 91) #[] #[]] w fun e w' => e = .returned (.slice none 0 0) ∧ w' = w := by
  go_enter Try.func90, Try.ntmps90
  go_wp2_with fail
  go_loopw [5, 10] (fun v i wx => v = .slice none 0 0 ∧ i = .int .i64 0 ∧ wx = w) (fun _ _ _ => 0)
  case atStart => exact ⟨rfl, rfl, rfl⟩
  case round =>
    obtain ⟨rfl, rfl, rfl⟩ := hrel
    go_wp2_with fail
    go_ret
    exact ⟨rfl, rfl⟩
set_option maxHeartbeats 800000 in
set_option maxRecDepth 100000 in
theorem copiedInt_nil (w : World) : Calls Try.prog 92 #[.slice none 0 0, .func (.func 93) #[] #[]] w fun e w' => e = .returned (.slice none 0 0) ∧ w' = w := by
  go_enter Try.func92, Try.ntmps92
  go_wp2_with fail
  go_loopw [5, 10] (fun v i wx => v = .slice none 0 0 ∧ i = .int .i64 0 ∧ wx = w) (fun _ _ _ => 0)
  case atStart => exact ⟨rfl, rfl, rfl⟩
  case round =>
    obtain ⟨rfl, rfl, rfl⟩ := hrel
    go_wp2_with fail
    go_ret
    exact ⟨rfl, rfl⟩
end Go.Proofs.Ytdgpblhmfkpblaa.Pg
