/- A tree that was looked at. -/
import Derived.Test.YticbjhicjegfoaaSi
import Derived.Deep.OwnRows
namespace Go.Proofs.Yticbjhicjegfoaa.Q
open Go.RowKit
open Go.Proofs.YticbjhicjegfoaaW.PrintWords

theorem look_ok (G : LG) (m : Nat) : LookOk G m := by
  induction m with
  | zero =>
    unfold LookOk
    intro k S S' hr
    unfold lookF at hr
    cases hr
  | succ m ih =>
    unfold LookOk
    intro k S S' hr w oko opv h
    unfold lookF at hr
    obtain ⟨n, hk, hr⟩ := Option.bind_eq_some_iff.1 hr
    obtain ⟨d, hd, hr⟩ := Option.bind_eq_some_iff.1 hr
    split at hr
    · rename_i hks
      have hd' := hd
      unfold declF at hd'
      rw [hk, Option.bind_some] at hd'
      unfold bodyF at hr
      cases d with
      | some s =>
        have hkd : n.kind = 21 ∨ n.kind = 22 ∨ n.kind = 23 := by
          split at hd'
          · omega
          · split at hd'
            · omega
            · cases hd'
        rw [if_neg (by omega), if_neg (by omega), if_neg (by omega), if_neg (by omega), if_neg (by omega)] at hr
        exact look_decl ih h hk hd hks (hid hkd) rfl hr
      | none =>
        split at hr
        · rename_i h3
          exact look_name ih h hk hd hks (hid h3) rfl hr
        split at hr
        · rename_i h3
          exact look_fun ih h hk hd (hid h3) rfl hr
        split at hr
        · rename_i h3
          exact look_all ih h hk hd (hid h3) rfl hr
        split at hr
        · rename_i h3
          obtain ⟨ns, hns, hr⟩ := Option.bind_eq_some_iff.1 hr
          split at hr
          · rename_i hl
            exact look_scope ih h hk hd (hid h3) rfl (hid hns) hl hr
          · rename_i hl
            exact look_block ih h hk hd (hid h3) rfl (hid hns) hl hr
        split at hr
        · rename_i h3
          obtain ⟨k0, q0, hr⟩ := Option.bind_eq_some_iff.1 hr
          obtain ⟨k1, q1, hr⟩ := Option.bind_eq_some_iff.1 hr
          obtain ⟨S2, q2, hr⟩ := Option.bind_eq_some_iff.1 hr
          obtain ⟨n1, q3, hr⟩ := Option.bind_eq_some_iff.1 hr
          exact look_try ih h hk hd (hid h3) rfl (hid q0) (hid q1) (hid q3) (hid q2) hr
        · rename_i p3 p10 p33 p25 p32
          exact look_other ih h hk hd (hid ⟨p3, p10, p33, p25, p32⟩) rfl hr
    · cases hr
theorem infoSpot : (Try.prog.info? 40).map (fun i => (i.zero, i.size, i.bytes)) = some (some (.agg #[.int .i64 0, .int .i64 0]), 2, 16) := by kernel_rfl
theorem make_spots {n : Nat} (hn : n ≤ 1048576) (w : World) : (Instr.makeSlice 33 (.int .i64 (n : Int)) (.int .i64 (n : Int))).run Try.prog w = .ok (.slice (some ⟨w.heap.size, 0, none⟩) n n) (w.alloc (.cells (spCells (List.replicate n ⟨0, 0⟩)).toArray 40)) := by
  obtain ⟨i, hi, hz0, hz1, hz2⟩ := info_parts infoSpot
  have h := run_make (P := Try.prog) (w := w) 33 40 i _ Try.underlying33 hi hz0 .i64 .i64 (n : Int) (n : Int) (by omega) (Int.le_refl _) (by rw [hz2]; omega) (by omega)
  rw [h, hz1, Int.toNat_natCast]
  have e : madeCells (Value.agg #[.int .i64 0, .int .i64 0]).cells (n * 2) = (spCells (List.replicate n ⟨0, 0⟩)).toArray := by
    have key : ∀ n : Nat, (spCells (List.replicate n ⟨0, 0⟩)) = List.replicate (n * 2) (Value.int .i64 0) := by
      intro n
      induction n with
      | zero => rfl
      | succ n ih =>
        rw [List.replicate_succ, show (n + 1) * 2 = n * 2 + 1 + 1 by omega, List.replicate_succ, List.replicate_succ, ← ih]
        rfl
    rw [key]
    have hc : (Value.agg #[.int .i64 0, .int .i64 0]).cells = #[.int .i64 0, .int .i64 0] := rfl
    rw [hc]
    apply Array.toList_inj.1
    apply List.ext_getElem?
    intro j
    unfold madeCells
    by_cases h : j < n * 2
    · have h2 : j % 2 = 0 ∨ j % 2 = 1 := by omega
      rcases h2 with h2 | h2 <;> simp [h, h2]
    · simp [h]
  rw [e]
theorem make_slots {n : Nat} (hn : n ≤ 1048576) (w : World) : (Instr.makeSlice 36 (.int .i64 (n : Int)) (.int .i64 (n : Int))).run Try.prog w = .ok (.slice (some ⟨w.heap.size, 0, none⟩) n n) (w.alloc (.cells (slCells (List.replicate n 0)).toArray 3)) := by
  rw [run_make_row' 36 3 (.int .i64 0) 8 Try.underlying36 infoInt rfl .i64 .i64 n (by omega) (by omega) w]
  have e : madeCells #[.int .i64 0] n = (slCells (List.replicate n 0)).toArray := by
    apply Array.toList_inj.1
    rw [toList_madeCells_one]
    simp [slCells]
  rw [e]
end Go.Proofs.Yticbjhicjegfoaa.Q
