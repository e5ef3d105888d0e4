/- heap.Reach where what is reached is known; rows of cells that lead to one another. -/
import Derived.Test.YtljbdmmidajmdaaPg59
namespace Go.Proofs.Ytljbdmmidajmdaa.Pg
open Go.RowKit Go.Maps

theorem sorted_is {L M : List Int} (hL : L.Nodup) (hM : M.Pairwise (· < ·)) (h : ∀ x, x ∈ L ↔ x ∈ M) : L.mergeSort leI = M ∧ L.length = M.length := by
  have hMn : M.Nodup := hM.imp (fun h e => by omega)
  have hp : L.Perm M := (List.perm_ext_iff_of_nodup hL hMn).2 h
  refine ⟨?_, hp.length_eq⟩
  rw [mergeSort_of_perm_i hp]
  exact List.mergeSort_of_pairwise (hM.imp (fun h => by simp only [leI, decide_eq_true_eq]; omega))
theorem RowR.up {B : Nat} {w : World} {sz : Nat} {v : Value} {xs : List (List Value)} (h : RowR B w sz v xs) : RowR w.heap.size w sz v xs := by
  obtain ⟨A, n, cap, h1, h2, h3, h4, h5, h6⟩ := h
  refine ⟨A, n, cap, h1, h2, h3, h4, h5, fun hn => ?_⟩
  obtain ⟨b, o, e, hi, hc⟩ := h6 hn
  exact ⟨b, o, e, ⟨hi.1, .inl hi.1⟩, hc⟩
theorem CRow.up {B : Nat} {w : World} {A : Option Addr} {n : Nat} {l : List CD} (h : CRow B w A n l) : CRow w.heap.size w A n l :=
  ⟨h.len, fun j c hj => by
    obtain ⟨b, o, e, A1, n1, p1, A2, n2, p2, q0, q1, q2, q3, q4, r⟩ := h.at_ j c hj
    exact ⟨b, o, e, A1, n1, p1, A2, n2, p2, q0, q1, q2, q3, q4, ⟨r.k.up, r.v.up⟩⟩⟩
theorem reach_is {w : World} {A : Option Addr} {n cap : Nat} {l : List CD} {V : Value} {roots : List VD} {M : List Int} (hn : n ≤ 100000) (h : CRow w.heap.size w A n l) (hv : RowR w.heap.size w 3 V (roots.map VD.row))
    (hM : M.Pairwise (· < ·)) (hR : ∀ x, Reached l roots x ↔ x ∈ M) :
    Calls Try.prog 28 #[.slice A n cap, V] w fun e w' => ∃ A' c', e = .returned (.slice A' M.length c') ∧ w'.ownsRow w.heap.size 3 1 (.slice A' M.length c') M.length (M.map encZ) ∧ Below w.heap.size w w' := by
  refine (reach_c hn h hv).mono ?_
  rintro e w' ⟨v, L, rfl, h1, h2, h3, h4⟩
  obtain ⟨e1, e2⟩ := sorted_is h2 hM (fun x => (h1 x).trans (hR x))
  rw [e1, e2] at h3
  rcases h3.2 with ⟨hv, hx⟩ | ⟨g, c, cur, hv, _⟩
  · have : M = [] := List.length_eq_zero_iff.1 hx
    subst this
    subst hv
    exact ⟨none, 0, rfl, h3, h4⟩
  · subst hv
    exact ⟨some ⟨g, 0, none⟩, c, rfl, h3, h4⟩

/-- A text's bytes. -/
abbrev resolveS : ByteArray := ⟨#[114, 101, 115, 111, 108, 118, 101]⟩
/-- The cell at i of a row, of four kinds. -/
def rowCell (kd i : Nat) : CD :=
  if kd = 0 then ⟨2, 0, 0, [], [⟨3, 1, ByteArray.empty⟩, ⟨5, (i : Nat) + 1, ByteArray.empty⟩]⟩ else if kd = 1 then ⟨1, (i : Nat) + 1, 0, [], []⟩ else if kd = 2 then ⟨3, 1, (i : Nat) + 1, [], []⟩
  else ⟨5, 0, 0, [], [⟨6, (i : Nat) + 1, resolveS⟩]⟩
theorem rowCell_leads {kd i : Nat} (hk : kd < 4) {x : Int} (h1 : 1 ≤ x) : x ∈ succs (rowCell kd i) ↔ x = (i : Int) + 1 := by
  rcases (by omega : kd = 0 ∨ kd = 1 ∨ kd = 2 ∨ kd = 3) with rfl | rfl | rfl | rfl
  · simp [rowCell, succs, beyondD, leadD]; omega
  · simp [rowCell, succs, beyondD]
  · simp [rowCell, succs, beyondD]
  · have : (i : Int) + 1 ≠ 0 := by omega
    simp [rowCell, succs, beyondD, leadD, this]; omega
def rowCells (kd k : Nat) : List CD := (List.range k).map (fun i => rowCell kd (i + 1))
theorem rowCells_get {kd k i : Nat} (h : i < k) : (rowCells kd k)[i]? = some (rowCell kd (i + 1)) := by simp [rowCells, h]
theorem rowCells_succ (kd k : Nat) : rowCells kd (k + 1) = rowCells kd k ++ [rowCell kd (k + 1)] := by simp [rowCells, List.range_succ]
/-- The numbers from a to k. -/
def upTo (a k : Nat) : List Int := (List.range' a (k + 1 - a)).map Int.ofNat
theorem mem_upTo {a k : Nat} {x : Int} : x ∈ upTo a k ↔ (a : Int) ≤ x ∧ x ≤ k := by
  simp only [upTo, List.mem_map, List.mem_range'_1]
  constructor
  · rintro ⟨i, h, rfl⟩; simp only [Int.ofNat_eq_natCast]; omega
  · intro h; exact ⟨x.toNat, by omega, by simp only [Int.ofNat_eq_natCast]; omega⟩
theorem upTo_sorted (a k : Nat) : (upTo a k).Pairwise (· < ·) := by
  refine List.pairwise_map.2 ((List.pairwise_lt_range' (s := a) (n := k + 1 - a)).imp (fun h => by simp only [Int.ofNat_eq_natCast]; omega))
theorem upTo_length {a k : Nat} : (upTo a k).length = k + 1 - a := by simp [upTo]
theorem upTo_get {a k i : Nat} (h : i < k + 1 - a) : (upTo a k)[i]? = some ((a : Int) + i) := by
  simp only [upTo, List.getElem?_map, List.getElem?_range' h, Option.map_some]
  simp
theorem rows_reached {kd k a : Nat} (hk : kd < 4) (ha : 1 ≤ a) (hak : a ≤ k) {x : Int} : Reached (rowCells kd k) [⟨5, a, ByteArray.empty⟩, ⟨3, 1, ByteArray.empty⟩, ⟨5, (k : Nat) + 5, ByteArray.empty⟩] x ↔ x ∈ upTo a k := by
  have hl : (rowCells kd k).length = k := by simp [rowCells]
  rw [mem_upTo]
  constructor
  · intro h
    induction h with
    | root hv hx h1 h2 =>
      simp only [List.mem_cons, List.not_mem_nil, or_false] at hv
      rw [hl] at h2
      rcases hv with rfl | rfl | rfl
      · simp [leadD] at hx; omega
      · simp [leadD] at hx
      · simp [leadD] at hx; omega
    | step hy hc hx h1 h2 ih =>
      rw [hl] at h2
      have hb := hy.bounds
      rw [hl] at hb
      rw [rowCells_get (by omega)] at hc
      obtain rfl := Option.some.inj hc
      have := (rowCell_leads hk h1).1 hx
      omega
  · intro h
    obtain ⟨j, rfl⟩ : ∃ j : Nat, x = (a : Int) + j := ⟨(x - a).toNat, by omega⟩
    induction j with
    | zero => exact .root (v := ⟨5, a, ByteArray.empty⟩) (by simp) (by simp [leadD]) (by omega) (by rw [hl]; omega)
    | succ j ih =>
      refine .step (ih (by omega)) (c := rowCell kd (a + j)) ?_ ((rowCell_leads hk (by omega)).2 (by omega)) (by omega) (by rw [hl]; omega)
      rw [show ((a : Int) + (j : Nat) - 1).toNat = a + j - 1 by omega, rowCells_get (by omega), show a + j - 1 + 1 = a + j by omega]
theorem none_reached {l : List CD} {x : Int} : Reached l [] x ↔ x ∈ ([] : List Int) := by
  simp only [List.not_mem_nil, iff_false]
  intro h
  induction h with
  | root hv => simp at hv
  | step _ _ _ _ _ ih => exact ih
end Go.Proofs.Ytljbdmmidajmdaa.Pg
