/- Where a value, and a cell, lead; what is added so. -/
import Derived.Test.YtljbdmmidajmdaaPg55
import Derived.Deep.CutBlock
namespace Go.Proofs.Ytljbdmmidajmdaa.Pg
open Go.RowKit Go.Maps

/-- Where a value leads. -/
def leadD (v : VD) : Option Int := if v.kind = 5 ∨ v.kind = 6 ∧ v.n ≠ 0 then some v.n else none
/-- Where a cell leads, but for its values; 0: nowhere. -/
def beyondD (c : CD) : Int := if c.kind = 1 ∨ c.kind = 4 then c.a else if c.kind = 3 then c.b else 0
/-- A number that is one of 1 to n is added. -/
def addIn (n : Nat) (L : List Int) (x : Int) : List Int := if 1 ≤ x ∧ x ≤ n then addL L x else L
/-- Where a value leads is added. -/
def addV (n : Nat) (L : List Int) (v : VD) : List Int := match leadD v with | some x => addIn n L x | none => L

theorem wf_of {x : Int} (h1 : 1 ≤ x) (h2 : x ≤ 9223372036854775807) : (Lit.int .i64 x).wf = true := by
  simp [Lit.wf, IntKind.min, IntKind.max, IntKind.bits, IntKind.signed]
  omega

set_option maxHeartbeats 1600000 in
theorem leads_none {v : VD} (h : leadD v = none) (w : World) : Calls Try.prog 51 #[.agg #[.int .i64 v.kind, .int .i64 v.n, .string v.s]] w fun e w' => e = .returned (.slice none 0 0) ∧ Below w.heap.size w w' := by
  unfold leadD at h
  split at h
  · cases h
  · rename_i hn
    have h5 : (v.kind == (5 : Int)) = false := by rw [beq_eq_false_iff_ne]; exact fun e => hn (.inl e)
    by_cases h6 : v.kind = 6
    · have h60 : (v.kind == (6 : Int)) = true := by rw [beq_iff_eq]; exact h6
      have h0 : (v.n != (0 : Int)) = false := by rw [bne_eq_false_iff_eq]; exact Classical.byContradiction fun e => hn (.inr ⟨h6, e⟩)
      clear hn h6
      go_enter Try.func51, Try.ntmps51
      go_wp2_with fail
      go_ret
      exact ⟨rfl, (Below.refl _ _).alloc (Nat.le_refl _) _⟩
    · have h60 : (v.kind == (6 : Int)) = false := by rw [beq_eq_false_iff_ne]; exact h6
      clear hn h6
      go_enter Try.func51, Try.ntmps51
      go_wp2_with fail
      go_ret
      exact ⟨rfl, (Below.refl _ _).alloc (Nat.le_refl _) _⟩
set_option maxHeartbeats 1600000 in
theorem leads_some {v : VD} {x : Int} (h : leadD v = some x) (w : World) : Calls Try.prog 51 #[.agg #[.int .i64 v.kind, .int .i64 v.n, .string v.s]] w fun e w' => ∃ k, e = .returned (.slice (some ⟨k, 0, none⟩) 1 1) ∧ w'.cell? ⟨k, 0, none⟩ = some (.int .i64 x) ∧ Below w.heap.size w w' := by
  unfold leadD at h
  split at h
  · rename_i hn
    injection h with hx
    subst hx
    by_cases h5 : v.kind = 5
    · have h50 : (v.kind == (5 : Int)) = true := by rw [beq_iff_eq]; exact h5
      clear hn h5
      go_enter Try.func51, Try.ntmps51
      go_wp2_with fail
      go_ret
      have hn := heap_alloc_new (w.alloc (.cells #[.int .i64 v.kind, .int .i64 v.n, .string v.s] 60)) (.cells #[.int .i64 v.n] 3)
      rw [show (w.alloc (.cells #[.int .i64 v.kind, .int .i64 v.n, .string v.s] 60)).heap.size = w.heap.size + 1 by simp] at hn
      exact ⟨_, rfl, cell_of_row _ _ 0 _ _ _ hn, ((Below.refl _ _).alloc (Nat.le_refl _) _).alloc (by simp) _⟩
    · have h50 : (v.kind == (5 : Int)) = false := by rw [beq_eq_false_iff_ne]; exact h5
      have h6 := hn.resolve_left h5
      have h60 : (v.kind == (6 : Int)) = true := by rw [beq_iff_eq]; exact h6.1
      have h0 : (v.n != (0 : Int)) = true := by rw [bne_iff_ne]; exact h6.2
      clear hn h5 h6
      go_enter Try.func51, Try.ntmps51
      go_wp2_with fail
      go_ret
      have hn := heap_alloc_new (w.alloc (.cells #[.int .i64 v.kind, .int .i64 v.n, .string v.s] 60)) (.cells #[.int .i64 v.n] 3)
      rw [show (w.alloc (.cells #[.int .i64 v.kind, .int .i64 v.n, .string v.s] 60)).heap.size = w.heap.size + 1 by simp] at hn
      exact ⟨_, rfl, cell_of_row _ _ 0 _ _ _ hn, ((Below.refl _ _).alloc (Nat.le_refl _) _).alloc (by simp) _⟩
  · cases h

set_option maxHeartbeats 1600000 in
theorem beyond_c (c : CD) (ks vl : Value) (w : World) : Calls Try.prog 52 #[.agg #[.int .i64 c.kind, .int .i64 c.a, .int .i64 c.b, ks, vl]] w fun e w' => e = .returned (.int .i64 (beyondD c)) ∧ Below w.heap.size w w' := by
  have step : ∀ (b1 b4 b3 : Bool), (c.kind == (1 : Int)) = b1 → (c.kind == (4 : Int)) = b4 → (c.kind == (3 : Int)) = b3 → Calls Try.prog 52 #[.agg #[.int .i64 c.kind, .int .i64 c.a, .int .i64 c.b, ks, vl]] w fun e w' => e = .returned (.int .i64 (if b1 || b4 then c.a else if b3 then c.b else 0)) ∧ Below w.heap.size w w' := by
    intro b1 b4 b3 h1 h4 h3
    cases b1 <;> cases b4 <;> cases b3
    all_goals
      go_enter Try.func52, Try.ntmps52
      go_wp2_with fail
      go_ret
      exact ⟨rfl, (Below.refl _ _).alloc (Nat.le_refl _) _⟩
  have := step _ _ _ rfl rfl rfl
  rwa [show (if ((c.kind == (1 : Int)) || (c.kind == (4 : Int))) = true then c.a else if (c.kind == (3 : Int)) = true then c.b else 0) = beyondD c by
    unfold beyondD
    simp only [Bool.or_eq_true, beq_iff_eq]] at this

section
variable {B : Nat} {w : World} {ob mb lb tv : Nat} {L : List Int} {x : Int} {A : Option Addr} {n cap : Nat}
set_option maxHeartbeats 1600000 in
theorem cadd_nil (w : World) (p q : Value) : Calls Try.prog 49 #[.slice none 0 0, p, q] w fun e w' => e = .returned (.tuple #[]) ∧ w' = w := by
  go_enter Try.func49, Try.ntmps49
  go_wp2_with fail
  go_loopw [8] (fun i wx => i = .int .i64 0 ∧ wx = w) (fun _ _ => 0)
  case atStart => exact ⟨rfl, rfl⟩
  case round =>
    obtain ⟨rfl, rfl⟩ := hrel
    go_wp2_with fail
    exact bodyPost_end (results_none rfl _ _ _) rfl ⟨rfl, rfl⟩
set_option maxHeartbeats 3200000 in
set_option maxRecDepth 100000 in
theorem cadd_c (h : Todo B w ob mb L) (hB : B ≤ w.heap.size) (hlb : w.cell? ⟨lb, 0, none⟩ = some (.slice A n cap)) (htv : w.cell? ⟨tv, 0, none⟩ = some (.pointer (some ⟨ob, 0, none⟩))) (hn : n ≤ 9223372036854775807)
    {k : Nat} (hk : w.cell? ⟨k, 0, none⟩ = some (.int .i64 x)) (hl : L.length ≤ 1000000) :
    Calls Try.prog 49 #[.slice (some ⟨k, 0, none⟩) 1 1, .pointer (some ⟨lb, 0, none⟩), .pointer (some ⟨tv, 0, none⟩)] w fun e w' => e = .returned (.tuple #[]) ∧ Todo B w' ob mb (addIn n L x) ∧ AddFr B w w' := by
  have H := hid h
  clear h
  go_enter Try.func49, Try.ntmps49
  go_wp2_with fail
  go_loopw [8] (fun i wx => (i = .int .i64 0 ∧ wx = w) ∨ (i = .int .i64 1 ∧ Box (Todo B wx ob mb (addIn n L x)) ∧ Box (AddFr B w wx))) (fun i _ => 1 - (RowKit.intOf i).toNat)
  case atStart => exact .inl ⟨rfl, rfl⟩
  case round =>
    rcases hrel with ⟨rfl, rfl⟩ | ⟨rfl, HT, HA⟩
    · by_cases h1 : 1 ≤ x
      · by_cases h2 : x ≤ n
        · have hx : (Lit.int .i64 x).wf = true := wf_of h1 (by omega)
          have HX := hid hx
          have h12 : 1 ≤ x ∧ x ≤ n := ⟨h1, h2⟩
          have H12 := hid h12
          clear hx h12
          go_wp2_with fail
          refine (tadd_c (H.out.below ((Below.refl wr.heap.size wr).alloc (Nat.le_refl _) (.cells #[.int .i64 x] 3))) (by simp; omega) HX.out (k := wr.heap.size) (cell_of_row _ _ 0 _ _ _ (heap_alloc_new _ _)) hl).mono ?_
          rintro e w2 ⟨rfl, hT, hA⟩
          have HT := hid hT
          have HA := hid ((AddFr.of_below hB ((Below.refl wr.heap.size wr).alloc (Nat.le_refl _) (.cells #[.int .i64 x] 3))).trans hA)
          clear hT hA
          go_wp2_with fail
          go_roundw
          case rel => exact .inr ⟨rfl, by unfold addIn; rw [if_pos H12.out]; exact HT, HA⟩
          case measure => simp [RowKit.intOf]
        · have h12 : ¬ (1 ≤ x ∧ x ≤ n) := fun h => h2 h.2
          have H12 := hid h12
          clear h12
          go_wp2_with fail
          go_roundw
          case rel => exact .inr ⟨rfl, by unfold addIn; rw [if_neg H12.out]; exact H, hid (AddFr.refl _ _)⟩
          case measure => simp [RowKit.intOf]
      · have h12 : ¬ (1 ≤ x ∧ x ≤ n) := fun h => h1 h.1
        have H12 := hid h12
        clear h12
        go_wp2_with fail
        go_roundw
        case rel => exact .inr ⟨rfl, by unfold addIn; rw [if_neg H12.out]; exact H, hid (AddFr.refl _ _)⟩
        case measure => simp [RowKit.intOf]
    · go_wp2_with fail
      exact bodyPost_end (results_none rfl _ _ _) rfl ⟨rfl, HT.out, HA.out⟩
end
end Go.Proofs.Ytljbdmmidajmdaa.Pg
