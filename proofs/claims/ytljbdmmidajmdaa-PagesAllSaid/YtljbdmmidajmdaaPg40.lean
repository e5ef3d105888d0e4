/- The document's family of books in memory. -/
import Derived.Test.YtljbdmmidajmdaaPg37
import Derived.Deep.DeepCutAuto
import Derived.Deep.Cut
import Derived.Deep.CutRange
namespace Go.Proofs.Ytljbdmmidajmdaa.Pg
open Go.RowKit

/-- A book of the document's: its cells, its pages' numbers, whether it was dropped. -/
structure RB where
  cells : List CD
  pgs : List Nat
  gone : Bool

/-- A slice's block, where it has one: it stays, apart from a family's. -/
def Stays (B : Nat) (w : World) (D : FD) (A : Option Addr) : Prop := ∀ x, A = some x → B ≤ x.block ∧ x.block < w.heap.size ∧ ¬ Foot D x.block ∧ (Typ w x.block 31 ∨ Typ w x.block 3)
/-- A slice that reads as numbers. -/
structure NRow (w : World) (A : Option Addr) (ns : List Nat) : Prop where
  at_ : ∀ j n, ns[j]? = some n → ∃ b o, A = some ⟨b, o, none⟩ ∧ w.cell? ⟨b, o + j, none⟩ = some (.int .i64 (n : Nat))
/-- One book in the row of books. -/
structure RBk (B : Nat) (w : World) (D : FD) (g o : Nat) (x : RB) : Prop where
  mk' ::
  ex : ∃ A cap A' cap', w.cell? ⟨g, o, none⟩ = some (.slice A x.cells.length cap) ∧ w.cell? ⟨g, o + 1, none⟩ = some (.slice A' x.pgs.length cap') ∧ w.cell? ⟨g, o + 2, none⟩ = some (.bool x.gone) ∧
    x.cells.length ≤ cap ∧ cap ≤ maxLen ∧ (A = none → cap = 0) ∧ CRow B w A x.cells.length x.cells ∧ Stays B w D A ∧
    x.pgs.length ≤ cap' ∧ cap' ≤ maxLen ∧ (A' = none → cap' = 0) ∧ NRow w A' x.pgs ∧ Stays B w D A'
/-- The family: its block, the row of its books, how many numbers there are. -/
structure RF (B : Nat) (w : World) (D : FD) (fb g cap : Nat) (R : List RB) (next : Nat) : Prop where
  base : B ≤ fb
  no : ¬ Foot D fb
  cell : w.heap[fb]? = some (.cells #[.slice (some ⟨g, 0, none⟩) R.length cap, .int .i64 (next : Nat)] 50 (0, 0))
  row : ∃ inner, w.ownsRow B 47 3 (.slice (some ⟨g, 0, none⟩) R.length cap) R.length inner
  norow : ¬ Foot D g
  bk : ∀ i x, R[i]? = some x → RBk B w D g (i * 3) x

section
variable {B : Nat} {w w' : World} {D D' : FD} {A : Option Addr} {ns : List Nat} {fb g cap o next : Nat} {R : List RB} {x : RB}
theorem Stays.turn (h : Stays B w D A) (hs : w.heap.size ≤ w'.heap.size) (hk : ∀ y, A = some y → w'.heap[y.block]? = w.heap[y.block]?) (hn : ∀ y, A = some y → ¬ Foot D' y.block) : Stays B w' D' A := fun y hy => by
  obtain ⟨h1, h2, h3, h4⟩ := h y hy
  exact ⟨h1, Nat.lt_of_lt_of_le h2 hs, hn y hy, h4.imp (fun t => t.move (hk y hy)) (fun t => t.move (hk y hy))⟩
theorem NRow.turn (h : NRow w A ns) (hk : ∀ y, A = some y → w'.heap[y.block]? = w.heap[y.block]?) : NRow w' A ns := ⟨fun j n hj => by
  obtain ⟨b, o, e, hc⟩ := h.at_ j n hj
  exact ⟨b, o, e, (World.cell?_of_block (a := ⟨b, o + j, none⟩) (hk ⟨b, o, none⟩ e)).trans hc⟩⟩
theorem CRow.turn {n : Nat} {l : List CD} (h : CRow B w A n l) (hf : Fr B w w') (hk : ∀ y, A = some y → w'.heap[y.block]? = w.heap[y.block]?) : CRow B w' A n l := ⟨h.len, fun j c hj => by
  obtain ⟨b, o, e, hc⟩ := h.at_ j c hj
  exact ⟨b, o, e, hc.move hf (hk ⟨b, o, none⟩ e)⟩⟩
/-- A book where the blocks of its rows, and its own cells, are as they were. -/
theorem RBk.turn (h : RBk B w D g o x) (hf : Fr B w w') (hk : ∀ k, B ≤ k → k < w.heap.size → ¬ Foot D k → (Typ w k 31 ∨ Typ w k 3) → w'.heap[k]? = w.heap[k]? ∧ ¬ Foot D' k) (hg : ∀ j, j < 3 → w'.cell? ⟨g, o + j, none⟩ = w.cell? ⟨g, o + j, none⟩) : RBk B w' D' g o x := by
  obtain ⟨A, cap, A', cap', h0, h1, h2, h3, h4, h5, h6, h7, h8, h9, h10, h11, h12⟩ := h.ex
  have k1 : ∀ y, A = some y → w'.heap[y.block]? = w.heap[y.block]? ∧ ¬ Foot D' y.block := fun y hy => by obtain ⟨q1, q2, q3, q4⟩ := h7 y hy; exact hk _ q1 q2 q3 q4
  have k2 : ∀ y, A' = some y → w'.heap[y.block]? = w.heap[y.block]? ∧ ¬ Foot D' y.block := fun y hy => by obtain ⟨q1, q2, q3, q4⟩ := h12 y hy; exact hk _ q1 q2 q3 q4
  exact ⟨⟨A, cap, A', cap', (hg 0 (by omega)).trans h0, (hg 1 (by omega)).trans h1, (hg 2 (by omega)).trans h2, h3, h4, h5, h6.turn hf (fun y hy => (k1 y hy).1), h7.turn hf.size (fun y hy => (k1 y hy).1) (fun y hy => (k1 y hy).2), h8, h9, h10,
    h11.turn (fun y hy => (k2 y hy).1), h12.turn hf.size (fun y hy => (k2 y hy).1) (fun y hy => (k2 y hy).2)⟩⟩
theorem RF.gtyp (h : RF B w D fb g cap R next) : Typ w g 47 ∧ B ≤ g := by obtain ⟨inner, h1⟩ := h.row; exact own_typ h1 rfl
theorem RF.turn (h : RF B w D fb g cap R next) (hf : Fr B w w') (hk : ∀ k, k < w.heap.size → ¬ Foot D k → w'.heap[k]? = w.heap[k]?) (hn : ∀ k, k < w.heap.size → ¬ Foot D k → ¬ Foot D' k) : RF B w' D' fb g cap R next := by
  have hl := (Array.getElem?_eq_some_iff.1 h.cell).1
  have hgl := h.gtyp.1.lt
  obtain ⟨inner, ho⟩ := h.row
  refine ⟨h.base, hn _ hl h.no, (hk _ hl h.no).trans h.cell, ⟨inner, own_move ho (fun k hk' => ?_)⟩, hn _ hgl h.norow, fun i x hx => (h.bk i x hx).turn hf (fun k _ q2 q3 _ => ⟨hk k q2 q3, hn k q2 q3⟩) (fun j _ => World.cell?_of_block (a := ⟨g, i * 3 + j, none⟩) (hk _ hgl h.norow))⟩
  obtain rfl : g = k := by simpa [Value.ownBlock] using hk'
  exact hk _ hgl h.norow
theorem RF.goes (h : RF B w D fb g cap R next) (hG : Goes B w D w' D') : RF B w' D' fb g cap R next :=
  h.turn hG.fr (fun k hk hn => hG.keep k hk hn) (fun k hk hn hf => (hG.foot k hf).elim hn (fun e => by omega))
theorem RF.below (h : RF B w D fb g cap R next) (hb : Below w.heap.size w w') : RF B w' D fb g cap R next :=
  h.turn (Fr.of_below hb) (fun k hk _ => hb.block k hk) (fun _ _ hn => hn)
theorem RF.c0 (h : RF B w D fb g cap R next) : w.cell? ⟨fb, 0, none⟩ = some (.slice (some ⟨g, 0, none⟩) R.length cap) := cell_of_row _ _ 0 _ _ _ h.cell
theorem RF.c1 (h : RF B w D fb g cap R next) : w.cell? ⟨fb, 1, none⟩ = some (.int .i64 (next : Nat)) := cell_of_row _ _ 1 _ _ _ h.cell
theorem RF.small (h : RF B w D fb g cap R next) : R.length ≤ cap ∧ cap ≤ maxLen := by
  obtain ⟨inner, h1⟩ := h.row
  rcases h1.2 with ⟨e, _⟩ | ⟨g', cap', cur, e, _, _, q1, q2, _⟩
  · cases e
  · injection e with _ _ e; subst e; exact ⟨q1, q2⟩
end

/-- Has another book a page of that number? -/
def sharedIn (R : List RB) (b n : Nat) : Prop := ∃ i x, i ≠ b ∧ R[i]? = some x ∧ n ∈ x.pgs

set_option maxHeartbeats 3200000 in
set_option maxRecDepth 100000 in
theorem shared_c {B : Nat} {w : World} {D : FD} {fb g cap next : Nat} {R : List RB} (h : RF B w D fb g cap R next) (b n : Nat) :
    Calls Try.prog 60 #[.pointer (some ⟨fb, 0, none⟩), .int .i64 b, .int .i64 n] w fun e w' => ∃ t : Bool, e = .returned (.bool t) ∧ (t = true ↔ sharedIn R b n) ∧ w' = w := by
  have c0 := h.c0
  have hm := h.small
  unfold maxLen at hm
  have H := hid h
  clear h
  go_enter Try.func60, Try.ntmps60
  go_wp2_with fail
  go_loopw [7] (fun i wx => ∃ k : Nat, k ≤ R.length ∧ i = .int .i64 k ∧ wx = w ∧ Box (∀ j x, j < k → j ≠ b → R[j]? = some x → n ∉ x.pgs)) (fun i _ => R.length - (intOf i).toNat)
  case atStart => exact ⟨0, by omega, rfl, rfl, hid (fun j x hj => absurd hj (by omega))⟩
  case round =>
    obtain ⟨k, hk, rfl, rfl, HN⟩ := hrel
    rcases Nat.lt_or_ge k R.length with hlt | hge
    · have hlt' : (k : Int) < (R.length : Nat) := by omega
      have hx : R[k]? = some R[k] := List.getElem?_eq_getElem hlt
      generalize R[k] = x at hx
      obtain ⟨A, p, A', p', d0, d1, d2, -, -, -, -, -, f1, f2, -, f3, -⟩ := (H.out.bk k x hx).ex
      have HX := hid hx
      have HP := hid f3
      unfold maxLen at f2
      clear hx f3 d0 d2
      go_wp2_with fail
      go_loopw [8] (fun i wx => ∃ j : Nat, j ≤ x.pgs.length ∧ i = .int .i64 j ∧ wx = wr ∧ Box (∀ y, y < j → k ≠ b → x.pgs[y]? ≠ some n)) (fun i _ => x.pgs.length - (intOf i).toNat)
      case atStart => exact ⟨0, by omega, rfl, rfl, hid (fun y hy => absurd hy (by omega))⟩
      case round =>
        obtain ⟨j, hj, rfl, rfl, HI⟩ := hrel
        rcases Nat.lt_or_ge j x.pgs.length with hjl | hjge
        · have hjl' : (j : Int) < (x.pgs.length : Nat) := by omega
          have hy : x.pgs[j]? = some x.pgs[j] := List.getElem?_eq_getElem hjl
          generalize x.pgs[j] = y at hy
          obtain ⟨b', o', rfl, hc⟩ := HP.out.at_ j y hy
          have HY := hid hy
          clear hy
          by_cases hkb : k = b
          · subst hkb
            go_wp2_with fail
            go_roundw
            case rel => exact ⟨j + 1, by omega, by go_num, trivial, hid (fun y' hy' hne => absurd rfl hne)⟩
            case measure => simp [intOf]; omega
          · have hkb' : ((k : Int) != (b : Int)) = true := by simp; omega
            by_cases hyn : y = n
            · subst hyn
              have HKB := hid hkb
              clear hkb
              go_wp2_with fail
              go_ret
              exact ⟨true, rfl, ⟨fun _ => ⟨k, x, HKB.out, HX.out, List.mem_of_getElem? HY.out⟩, fun _ => rfl⟩, rfl⟩
            · have hyn' : ((y : Int) == (n : Int)) = false := by simp; omega
              have HYN := hid hyn
              have HKB := hid hkb
              clear hyn hkb
              go_wp2_with fail
              go_roundw
              case rel =>
                refine ⟨j + 1, by omega, by go_num, trivial, hid (fun y' hy' hne => ?_)⟩
                rcases Nat.lt_or_ge y' j with q | q
                · exact HI.out y' q hne
                · obtain rfl : y' = j := by omega
                  rw [HY.out]
                  exact fun e => HYN.out (Option.some.inj e)
              case measure => simp [intOf]; omega
        · obtain rfl : j = x.pgs.length := by omega
          go_wp2_with fail
          go_roundw
          case rel =>
            refine ⟨k + 1, by omega, by go_num, trivial, hid (fun i z hi hne hz hm => ?_)⟩
            rcases Nat.lt_or_ge i k with q | q
            · exact HN.out i z q hne hz hm
            · obtain rfl : i = k := by omega
              obtain rfl := Option.some.inj (HX.out.symm.trans hz)
              obtain ⟨y, hy⟩ := List.getElem?_of_mem hm
              exact HI.out y (List.getElem?_eq_some_iff.1 hy).1 hne hy
          case measure => simp [intOf]; omega
    · obtain rfl : k = R.length := by omega
      go_wp2_with fail
      go_ret
      refine ⟨false, rfl, ⟨(fun e => by cases e), ?_⟩, rfl⟩
      rintro ⟨i, x, hi, hx, hm'⟩
      exact absurd hm' (HN.out i x (List.getElem?_eq_some_iff.1 hx).1 hi hx)
end Go.Proofs.Ytljbdmmidajmdaa.Pg
