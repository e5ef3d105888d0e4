/- Each of a row leads to the next one: the walk. -/
import Derived.Test.YtljbdmmidajmdaaPg60
import Derived.Test.YtljbdmmidajmdaaPg27
import Derived.Deep.DeepCutAuto
import Derived.Deep.Cut
import Derived.Deep.CutRange
namespace Go.Proofs.Ytljbdmmidajmdaa.Pg
open Go.RowKit Go.Maps
attribute [local go_sem ↓] Go.wp_at_zero Go.wp_at_succ

theorem vals_of {B : Nat} {w : World} {k : Nat} (vs : List VD) (h : w.heap[k]? = some (.cells (vs.map VD.row).flatten.toArray 60 (0, 0))) (hl : vs.length ≤ 1000) : RowR B w 3 (.slice (some ⟨k, 0, none⟩) vs.length vs.length) (vs.map VD.row) := by
  have hlen : (vs.map VD.row).flatten.length = vs.length * 3 := by
    clear h hl
    induction vs with
    | nil => rfl
    | cons v vs ih => simp only [List.map_cons, List.flatten_cons, List.length_append, ih, List.length_cons]; simp [VD.row]; omega
  have ho : w.ownsRow 0 60 3 (.slice (some ⟨k, 0, none⟩) vs.length vs.length) vs.length (vs.map VD.row).flatten :=
    ⟨hlen, .inr ⟨k, vs.length, _, rfl, Nat.zero_le _, h, Nat.le_refl _, by unfold maxLen; omega, by simpa using hlen, by rw [List.take_of_length_le]; simpa using Nat.le_of_eq hlen⟩⟩
  exact RowR.of_own ho (.inr rfl) (fun c hc => by obtain ⟨v, _, rfl⟩ := List.mem_map.1 hc; rfl) (by simp)
/-- What a kind of cell comes to in memory. -/
def RowBox (B : Nat) (w wx : World) (kd j : Nat) : Prop := ∃ (A1 : Option Addr) (n1 p1 : Nat) (A2 : Option Addr) (n2 p2 : Nat), Box (Below w.heap.size w wx) ∧
        Box (wx.heap[w.heap.size]? = some (.cells #[.int .i64 (rowCell kd (j + 1)).kind, .int .i64 (rowCell kd (j + 1)).a, .int .i64 (rowCell kd (j + 1)).b, .slice A1 n1 p1, .slice A2 n2 p2] 31 (0, 0))) ∧ Box (Reads B wx (rowCell kd (j + 1)) (.slice A1 n1 p1) (.slice A2 n2 p2))
theorem row_kind0 {B : Nat} {w : World} {j : Nat} : RowBox B w ((w.alloc (.cells #[.int .i64 2, .int .i64 0, .int .i64 0, .slice none 0 0, .slice (some ⟨w.heap.size + 1, 0, none⟩) 2 2] 31)).alloc (.cells #[.int .i64 3, .int .i64 1, .string ByteArray.empty, .int .i64 5, .int .i64 ((j : Int) + 1 + 1), .string ByteArray.empty] 60)) 0 j := by
  have sa : (w.alloc (.cells #[.int .i64 2, .int .i64 0, .int .i64 0, .slice none 0 0, .slice (some ⟨w.heap.size + 1, 0, none⟩) 2 2] 31)).heap.size = w.heap.size + 1 := by simp
  have h1 := heap_alloc_new (w.alloc (.cells #[.int .i64 2, .int .i64 0, .int .i64 0, .slice none 0 0, .slice (some ⟨w.heap.size + 1, 0, none⟩) 2 2] 31)) (.cells #[.int .i64 3, .int .i64 1, .string ByteArray.empty, .int .i64 5, .int .i64 ((j : Int) + 1 + 1), .string ByteArray.empty] 60)
  rw [sa] at h1
  exact ⟨none, 0, 0, some ⟨w.heap.size + 1, 0, none⟩, 2, 2, ⟨((Below.refl _ _).alloc (Nat.le_refl _) _).alloc (by simp) _⟩, ⟨(heap_alloc_old _ _ (by simp)).trans (heap_alloc_new _ _)⟩, ⟨RowR.nil _ _ _, vals_of (rowCell 0 (j + 1)).vals h1 (by simp [rowCell])⟩⟩
theorem row_kind1 {B : Nat} {w : World} {j : Nat} : RowBox B w (w.alloc (.cells #[.int .i64 1, .int .i64 ((j : Int) + 1 + 1), .int .i64 0, .slice none 0 0, .slice none 0 0] 31)) 1 j :=
  ⟨none, 0, 0, none, 0, 0, ⟨(Below.refl _ _).alloc (Nat.le_refl _) _⟩, ⟨heap_alloc_new _ _⟩, ⟨RowR.nil _ _ _, RowR.nil _ _ _⟩⟩
theorem row_kind2 {B : Nat} {w : World} {j : Nat} : RowBox B w (w.alloc (.cells #[.int .i64 3, .int .i64 1, .int .i64 ((j : Int) + 1 + 1), .slice none 0 0, .slice none 0 0] 31)) 2 j :=
  ⟨none, 0, 0, none, 0, 0, ⟨(Below.refl _ _).alloc (Nat.le_refl _) _⟩, ⟨heap_alloc_new _ _⟩, ⟨RowR.nil _ _ _, RowR.nil _ _ _⟩⟩
theorem row_kind3 {B : Nat} {w : World} {j : Nat} : RowBox B w ((w.alloc (.cells #[.int .i64 5, .int .i64 0, .int .i64 0, .slice none 0 0, .slice (some ⟨w.heap.size + 1, 0, none⟩) 1 1] 31)).alloc (.cells #[.int .i64 6, .int .i64 ((j : Int) + 1 + 1), .string resolveS] 60)) 3 j := by
  have sa : (w.alloc (.cells #[.int .i64 5, .int .i64 0, .int .i64 0, .slice none 0 0, .slice (some ⟨w.heap.size + 1, 0, none⟩) 1 1] 31)).heap.size = w.heap.size + 1 := by simp
  have h1 := heap_alloc_new (w.alloc (.cells #[.int .i64 5, .int .i64 0, .int .i64 0, .slice none 0 0, .slice (some ⟨w.heap.size + 1, 0, none⟩) 1 1] 31)) (.cells #[.int .i64 6, .int .i64 ((j : Int) + 1 + 1), .string resolveS] 60)
  rw [sa] at h1
  exact ⟨none, 0, 0, some ⟨w.heap.size + 1, 0, none⟩, 1, 1, ⟨((Below.refl _ _).alloc (Nat.le_refl _) _).alloc (by simp) _⟩, ⟨(heap_alloc_old _ _ (by simp)).trans (heap_alloc_new _ _)⟩, ⟨RowR.nil _ _ _, vals_of (rowCell 3 (j + 1)).vals h1 (by simp [rowCell])⟩⟩

set_option maxHeartbeats 12800000 in
set_option maxRecDepth 100000 in
theorem hrows_c (a b c : Int) (ha0 : 0 ≤ a) (ha1 : a ≤ 255) (hb0 : 0 ≤ b) (hb1 : b ≤ 255) (hc0 : 0 ≤ c) (hc1 : c ≤ 255) (w : World) :
    Calls Try.prog 8 #[.int .u8 a, .int .u8 b, .int .u8 c] w fun e w' => e = .returned (.bool true) ∧ Below w.heap.size w w' := by
  obtain ⟨an, rfl⟩ := Int.eq_ofNat_of_zero_le ha0
  obtain ⟨bn, rfl⟩ := Int.eq_ofNat_of_zero_le hb0
  obtain ⟨kd, hkd⟩ : ∃ kd : Nat, c % 4 = kd := ⟨(c % 4).toNat, by omega⟩
  have hkd4 : kd < 4 := by omega
  obtain ⟨q, hq⟩ : ∃ q : Nat, (an : Int) % 40 = q := ⟨an % 40, by omega⟩
  have hq40 : q < 40 := by omega
  obtain ⟨r, hr⟩ : ∃ r : Nat, (bn : Int) % (1 + (q : Int)) = r := ⟨bn % (1 + q), by rw [show (1 : Int) + (q : Int) = ((1 + q : Nat) : Int) by omega]; omega⟩
  have hrq : r ≤ q := by
    have h1 := Int.emod_lt_of_pos (bn : Int) (show (0 : Int) < 1 + (q : Int) by omega)
    rw [hr] at h1
    omega
  obtain ⟨i0, hi, hz0, hz1, hz2⟩ := info_parts infoCells
  have HI := hid hi
  clear hi
  go_enter Try.func8, Try.ntmps8
  go_wp2_with fail
  clear hr
  go_loopw [9, 10] (fun v i wx => ∃ j : Nat, j ≤ q + 1 ∧ i = .int .i64 ((j : Int) + 1) ∧ Box (Below w.heap.size w wx) ∧ Box (Out w.heap.size wx w.heap.size v (rowCells kd j))) (fun _ i _ => q + 2 - (RowKit.intOf i).toNat)
  case atStart => exact ⟨0, by omega, rfl, hid (Below.refl _ _), hid (Out.nil _ _ _)⟩
  case round =>
    obtain ⟨j, hj, rfl, HB, HO⟩ := hrel
    rcases Nat.lt_or_ge j (q + 1) with hlt | hge
    · have hlt' : (j : Int) + 1 ≤ 1 + (q : Int) := by omega
      have hjw : IntKind.i64.wrap ((j : Int) + 1 + 1) = (j : Int) + 1 + 1 := IntWalk.i64_in _ (by omega)
      have s1 := HB.out.size
      go_upto_block 2 with fail
      go_cut [11] (fun t wx => t = .pointer (some ⟨wr.heap.size, 0, none⟩) ∧ RowBox w.heap.size wr wx kd j)
      case first =>
        rcases (by omega : kd = 0 ∨ kd = 1 ∨ kd = 2 ∨ kd = 3) with rfl | rfl | rfl | rfl
        · go_wp2_with fail
          go_meet
          exact ⟨rfl, row_kind0⟩
        · go_wp2_with fail
          go_meet
          exact ⟨rfl, row_kind1⟩
        · go_wp2_with fail
          go_meet
          exact ⟨rfl, row_kind2⟩
        · go_wp2_with fail
          go_meet
          exact ⟨rfl, row_kind3⟩
      case rest =>
        obtain ⟨rfl, A1, n1, p1, A2, n2, p2, HBw, HBx, HR⟩ := hcut
        have b0 := cell_of_row _ _ 0 _ _ _ HBx.out
        have b1 := cell_of_row _ _ 1 _ _ _ HBx.out
        have b2 := cell_of_row _ _ 2 _ _ _ HBx.out
        have b3 := cell_of_row _ _ 3 _ _ _ HBx.out
        have b4 := cell_of_row _ _ 4 _ _ _ HBx.out
        simp only [List.getElem?_toArray, List.getElem?_cons_zero, List.getElem?_cons_succ] at b0 b1 b2 b3 b4
        have hb4 := (Below.refl wc.heap.size wc).alloc (Nat.le_refl _) (.cells #[.int .i64 (rowCell kd (j + 1)).kind, .int .i64 (rowCell kd (j + 1)).a, .int .i64 (rowCell kd (j + 1)).b, .slice A1 n1 p1, .slice A2 n2 p2] 31)
        have s2 := HBw.out.size
        obtain ⟨inner, ho, hcc⟩ := (HO.out.below HBw.out).below hb4
        rw [show (rowCells kd j).length = j by simp [rowCells]] at ho
        have HOwn := hid ho
        have HCC := hid hcc
        have HNews := hid (World.news_of_block (heap_alloc_new wc (.cells #[.int .i64 (rowCell kd (j + 1)).kind, .int .i64 (rowCell kd (j + 1)).a, .int .i64 (rowCell kd (j + 1)).b, .slice A1 n1 p1, .slice A2 n2 p2] 31)))
        have HB4 := hid ((HB.out.trans (HBw.out.mono s1)).trans (hb4.mono (Nat.le_trans s1 s2)))
        have HR4 := hid (HR.out.move (Fr.of_below hb4))
        have HS := hid (show w.heap.size ≤ (wc.alloc (.cells #[.int .i64 (rowCell kd (j + 1)).kind, .int .i64 (rowCell kd (j + 1)).a, .int .i64 (rowCell kd (j + 1)).b, .slice A1 n1 p1, .slice A2 n2 p2] 31)).heap.size from HB4.out.size)
        clear hb4 ho hcc
        go_wp2_with (at_builtin; refine wpList_append_own _ rfl _ _ 44 rfl w.heap.size 31 i0 (.agg #[.int .i64 0, .int .i64 0, .int .i64 0, .slice none 0 0, .slice none 0 0]) 5 72 Try.underlying44 HI.out hz0 hz1 hz2 rfl (by decide) u9 j inner ?c1 HOwn.out ⟨wc.heap.size, 0, none⟩ 1 1 [.int .i64 (rowCell kd (j + 1)).kind, .int .i64 (rowCell kd (j + 1)).a, .int .i64 (rowCell kd (j + 1)).b, .slice A1 n1 p1, .slice A2 n2 p2] ?c2 rfl ?c3 ?c4 ?c5 ?c6 HS.out ?_; (case c1 => rfl); (case c2 => rfl); (case c3 => exact HNews.out); (case c4 => simp [Value.oneCell']); (case c5 => unfold maxLen; omega); (case c6 => omega); intro v5 w5 hown hgrow hnil; have HB5 := hid (HB4.out.grown hgrow HS.out (fun x hx => (HOwn.out.lt x hx).1)); have HO5 := hid (Out.grow (by simp [rowCells]) HOwn.out HCC.out (Nat.le_refl _) hgrow hown ⟨_, _, rfl, HR4.out.k, HR4.out.v⟩); clear hown hgrow hnil b0 b1 b2 b3 b4)
        go_roundw
        case rel =>
          refine ⟨j + 1, by omega, by go_num, ?_⟩
          rw [rowCells_succ]
          first | exact ⟨HB5, HO5⟩ | exact HO5
        case measure => simp [RowKit.intOf]; omega
    · obtain rfl : j = q + 1 := by omega
      have hge' : ¬ (((q + 1 : Nat) : Int) + 1 ≤ 1 + (q : Int)) := by omega
      obtain ⟨A, cap, rfl, hlm, hcr⟩ := HO.out.slice
      have hlen : (rowCells kd (q + 1)).length = q + 1 := by simp [rowCells]
      rw [hlen] at hcr ⊢
      clear hlm
      have hvw : IntKind.i64.wrap (1 + (q : Int) + 5) = 1 + (q : Int) + 5 := IntWalk.i64_in _ (by omega)
      have s1 := HB.out.size
      have h1 := heap_alloc_new wr (.cells #[.int .i64 5, .int .i64 (1 + (r : Int)), .string ByteArray.empty, .int .i64 3, .int .i64 1, .string ByteArray.empty, .int .i64 5, .int .i64 (1 + (q : Int) + 5), .string ByteArray.empty] 60)
      have hbv := (Below.refl wr.heap.size wr).alloc (Nat.le_refl _) (.cells #[.int .i64 5, .int .i64 (1 + (r : Int)), .string ByteArray.empty, .int .i64 3, .int .i64 1, .string ByteArray.empty, .int .i64 5, .int .i64 (1 + (q : Int) + 5), .string ByteArray.empty] 60)
      have HV := hid (vals_of (B := (wr.alloc (.cells #[.int .i64 5, .int .i64 (1 + (r : Int)), .string ByteArray.empty, .int .i64 3, .int .i64 1, .string ByteArray.empty, .int .i64 5, .int .i64 (1 + (q : Int) + 5), .string ByteArray.empty] 60)).heap.size) [⟨5, 1 + (r : Int), ByteArray.empty⟩, ⟨3, 1, ByteArray.empty⟩, ⟨5, 1 + (q : Int) + 5, ByteArray.empty⟩] h1 (by simp))
      have HCr := hid ((hcr.below hbv).up)
      have HBv := hid (HB.out.trans (hbv.mono s1))
      have hsv : w.heap.size ≤ (wr.alloc (.cells #[.int .i64 5, .int .i64 (1 + (r : Int)), .string ByteArray.empty, .int .i64 3, .int .i64 1, .string ByteArray.empty, .int .i64 5, .int .i64 (1 + (q : Int) + 5), .string ByteArray.empty] 60)).heap.size := HBv.out.size
      clear h1 hbv hcr
      go_wp2_with fail
      refine (reach_is (M := upTo (1 + r) (q + 1)) (by omega) HCr.out HV.out (upTo_sorted _ _) (fun x => by
        have := rows_reached (kd := kd) (k := q + 1) (a := 1 + r) hkd4 (by omega) (by omega) (x := x)
        rw [show (((1 + r : Nat) : Int)) = 1 + (r : Int) by omega, show (((q + 1 : Nat) : Int)) + 5 = 1 + (q : Int) + 5 by omega] at this
        exact this)).mono ?_
      rintro e w5 ⟨A5, c5, rfl, hrow, hb5⟩
      rw [upTo_length] at hrow ⊢
      obtain ⟨m, hm⟩ : ∃ m, q + 1 + 1 - (1 + r) = m := ⟨_, rfl⟩
      rw [hm] at hrow ⊢
      have HM := hid hm
      have hmq : (m : Int) = (q : Int) + 1 - r := by omega
      have hne : ((m : Int) != 1 + (q : Int) - (1 + (r : Int)) + 1) = false := by rw [bne_eq_false_iff_eq]; omega
      have HMq := hid hmq
      have hm40 : m ≤ 100 := by omega
      have HRow := hid hrow
      have HB5 := hid (HBv.out.trans (hb5.mono hsv))
      have HCr5 := hid (HCr.out.below hb5)
      clear hrow hb5 hmq hm
      go_wp2_with fail
      clear hne
      go_loopw [13] (fun i wx => ∃ j : Nat, j ≤ m ∧ i = .int .i64 j ∧ wx = w5) (fun i _ => m - (RowKit.intOf i).toNat)
      case atStart => exact ⟨0, by omega, rfl, rfl⟩
      case round =>
        obtain ⟨j, hj, rfl, rfl⟩ := hrel
        rcases Nat.lt_or_ge j m with hlt | hge
        · have hlt' : (j : Int) < m := by omega
          obtain ⟨g, rfl, hcell⟩ := own_at HRow.out hlt
          have c0 := hcell j (encZ ((((1 + r : Nat)) : Int) + j)) (by rw [List.getElem?_map, upTo_get (by have := HM.out; omega)]; rfl)
          have hjb : (j : Int) ≤ 100 := by omega
          have hrw : (((1 + r : Nat)) : Int) + (j : Int) = 1 + (r : Int) + j := by omega
          rw [hrw] at c0
          unfold encZ at c0
          clear hcell hrw
          go_wp2_with fail
          go_roundw
          case rel => exact ⟨j + 1, by omega, by go_num, trivial⟩
          case measure => simp [RowKit.intOf]; omega
        · obtain rfl : j = m := by omega
          have HCr6 := hid HCr5.out.up
          go_wp2_with fail
          refine (reach_is (M := []) (roots := []) (by omega) HCr6.out (RowR.nil _ _ _) List.Pairwise.nil (fun x => none_reached)).mono ?_
          rintro e w7 ⟨A7, c7, rfl, -, hb7⟩
          have HB7 := hid (HB5.out.trans (hb7.mono HB5.out.size))
          clear hb7
          go_wp2_with fail
          refine (hawake_c _).mono ?_
          rintro e w8 ⟨rfl, hb8⟩
          have HB8 := hid (HB7.out.trans (hb8.mono HB7.out.size))
          clear hb8
          go_wp2_with fail
          go_ret
          exact ⟨rfl, HB8.out⟩
end Go.Proofs.Ytljbdmmidajmdaa.Pg
