/- A ring is reached from each of it: the walk. -/
import Derived.Test.YtljbdmmidajmdaaPg61
namespace Go.Proofs.Ytljbdmmidajmdaa.Pg
open Go.RowKit Go.Maps
attribute [local go_sem ↓] Go.wp_at_zero Go.wp_at_succ

/-- A ring's cell. -/
def ringCell (k i : Nat) : CD := ⟨4, ((i % k : Nat) : Int) + 1, 0, [], []⟩
/-- What leads into the ring. -/
def arrCell (k : Nat) : CD := ⟨2, 0, 0, [], [⟨5, 1, ByteArray.empty⟩, ⟨5, (k : Int) + 1, ByteArray.empty⟩]⟩
def ringCells (k n : Nat) : List CD := (List.range n).map (fun i => ringCell k (i + 1))
theorem ringCells_succ (k n : Nat) : ringCells k (n + 1) = ringCells k n ++ [ringCell k (n + 1)] := by simp [ringCells, List.range_succ]
theorem ringCells_length (k n : Nat) : (ringCells k n).length = n := by simp [ringCells]
def ringAll (k : Nat) : List CD := ringCells k k ++ [arrCell k]
theorem ringAll_length (k : Nat) : (ringAll k).length = k + 1 := by simp [ringAll, ringCells]
theorem ringAll_get {k i : Nat} (h : i < k) : (ringAll k)[i]? = some (ringCell k (i + 1)) := by
  rw [ringAll, List.getElem?_append_left (by rw [ringCells_length]; exact h)]
  simp [ringCells, h]
theorem ringAll_last (k : Nat) : (ringAll k)[k]? = some (arrCell k) := by
  rw [ringAll, List.getElem?_append_right (by rw [ringCells_length]; omega), ringCells_length]
  simp
theorem ring_round {k : Nat} (hk : 1 ≤ k) {roots : List VD} {a : Nat} (ha : a < k) (h : Reached (ringAll k) roots ((a : Int) + 1)) : ∀ j : Nat, Reached (ringAll k) roots ((((a + j) % k : Nat) : Int) + 1)
  | 0 => by rw [Nat.add_zero, Nat.mod_eq_of_lt ha]; exact h
  | j + 1 => by
    have hlt : (a + j) % k < k := Nat.mod_lt _ (by omega)
    have hlt' : (a + (j + 1)) % k < k := Nat.mod_lt _ (by omega)
    refine .step (ring_round hk ha h j) (c := ringCell k ((a + j) % k + 1)) ?_ ?_ (by omega) (by rw [ringAll_length]; omega)
    · rw [show ((((a + j) % k : Nat) : Int) + 1 - 1).toNat = (a + j) % k by omega]
      exact ringAll_get hlt
    · have e : ((a + j) % k + 1) % k = (a + (j + 1)) % k := by rw [Nat.mod_add_mod, Nat.add_assoc]
      simp [succs, beyondD, ringCell, e]
theorem ring_all {k : Nat} (hk : 1 ≤ k) {roots : List VD} {a : Nat} (ha : a < k) (h : Reached (ringAll k) roots ((a : Int) + 1)) {x : Int} (h1 : 1 ≤ x) (h2 : x ≤ k) : Reached (ringAll k) roots x := by
  obtain ⟨m, rfl⟩ : ∃ m : Nat, x = (m : Int) + 1 := ⟨(x - 1).toNat, by omega⟩
  have := ring_round hk ha h (m + k - a)
  rwa [show a + (m + k - a) = m + k by omega, Nat.add_mod_right, Nat.mod_eq_of_lt (by omega)] at this
theorem ring_stays {k : Nat} {roots : List VD} (hr : ∀ v ∈ roots, ∀ x, leadD v = some x → 1 ≤ x → x ≤ k + 1 → x ≤ k) {x : Int} (h : Reached (ringAll k) roots x) : x ≤ k := by
  induction h with
  | root hv hx h1 h2 => rw [ringAll_length] at h2; exact hr _ hv _ hx h1 (by omega)
  | @step y0 x0 c0 hy hc hx h1 h2 ih =>
    have hb := hy.bounds
    rw [ringAll_get (by omega)] at hc
    obtain rfl := Option.some.inj hc
    have h3 := Nat.mod_lt ((y0 - 1).toNat + 1) (show k > 0 by omega)
    have hx' : x0 = ((((y0 - 1).toNat + 1) % k : Nat) : Int) + 1 := by simpa [succs, beyondD, ringCell] using hx
    omega
theorem ring_reached {k a : Nat} (ha1 : 1 ≤ a) (hak : a ≤ k) {x : Int} : Reached (ringAll k) [⟨5, a, ByteArray.empty⟩] x ↔ x ∈ upTo 1 k := by
  rw [mem_upTo]
  constructor
  · intro h
    exact ⟨h.bounds.1, ring_stays (fun v hv y hy h1 h2 => by simp at hv; subst hv; simp [leadD] at hy; omega) h⟩
  · rintro ⟨h1, h2⟩
    refine ring_all (by omega) (a := a - 1) (by omega) ?_ (by omega) h2
    exact .root (v := ⟨5, a, ByteArray.empty⟩) (by simp) (by simp [leadD]; omega) (by omega) (by rw [ringAll_length]; omega)
theorem arr_reached {k : Nat} (hk : 1 ≤ k) {x : Int} : Reached (ringAll k) [⟨5, (k : Int) + 1, ByteArray.empty⟩, ⟨5, (k : Int) + 1, ByteArray.empty⟩] x ↔ x ∈ upTo 1 (k + 1) := by
  have hl := ringAll_length k
  have h0 : Reached (ringAll k) [⟨5, (k : Int) + 1, ByteArray.empty⟩, ⟨5, (k : Int) + 1, ByteArray.empty⟩] ((k : Int) + 1) :=
    .root (v := ⟨5, (k : Int) + 1, ByteArray.empty⟩) (by simp) (by simp [leadD]) (by omega) (by rw [hl]; omega)
  rw [mem_upTo]
  constructor
  · intro h
    have := h.bounds
    rw [hl] at this
    omega
  · rintro ⟨h1, h2⟩
    by_cases hx : x = (k : Int) + 1
    · subst hx; exact h0
    · refine ring_all hk (a := 0) (by omega) ?_ (by omega) (by omega)
      refine .step h0 (c := arrCell k) ?_ (by simp [succs, beyondD, arrCell, leadD]) (by omega) (by rw [hl]; omega)
      rw [show ((k : Int) + 1 - 1).toNat = k by omega]
      exact ringAll_last k
end Go.Proofs.Ytljbdmmidajmdaa.Pg
