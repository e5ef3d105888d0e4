/- What a proof further on needs (part k). -/
import Derived.Deep.CutBlock
import Derived.Test.YticbjhicjegfoaaKj
set_option linter.unusedVariables false
namespace Go.Proofs.Yticbjhicjegfoaa.Q
open Go.RowKit
open Go.Proofs.YticbjhicjegfoaaW.PrintWords
section
variable {G : EG} {w : World} {okb oks : Nat → Prop} {bv v : Value} {bad : List Nat} {a : Ar} {n : Nd} {A3 A4 : Option Addr} {c3 c4 : Nat}
set_option maxHeartbeats 1600000 in
set_option maxRecDepth 100000 in
theorem rule0_c (h : EI G w okb bv bad) (ha : AE w oks v a) {q : Bool} (hq : n.kind = 10 → q = twiceF n.names ∧ n.names.length ≤ 1048576 ∧ ∀ x ∈ n.names, x.size ≤ 1048576) (hF : Kd.F Kd.string w G.okl A3 n.names.length n.names) : Calls Try.prog 72 #[ptr G.a, (.agg #[.int .i64 n.kind, .int .i64 n.num, .string n.text, .slice A3 n.names.length c3, .slice A4 n.kids.length c4, .int .i64 n.at_]), arV a v] w fun e w' => e = .returned (.bool (decide (n.kind = 10) && q)) ∧ Below w.heap.size w w' := by
  have HF := hid hF
  have HQ := hid hq
  clear hF hq
  obtain ⟨A, c, rfl, _⟩ := id ha
  have hb : Below w.heap.size w ((w.alloc (.cells #[.int .i64 n.kind, .int .i64 n.num, .string n.text, .slice A3 n.names.length c3, .slice A4 n.kids.length c4, .int .i64 n.at_] 38)).alloc (.cells #[.bool a.loop, .bool a.fun_, .bool a.gen, .slice A a.scopes.length c] 83)) := ((Below.refl _ _).alloc (Nat.le_refl _) _).alloc (by simp) _
  have r4 : ((w.alloc (.cells #[.int .i64 n.kind, .int .i64 n.num, .string n.text, .slice A3 n.names.length c3, .slice A4 n.kids.length c4, .int .i64 n.at_] 38)).alloc (.cells #[.bool a.loop, .bool a.fun_, .bool a.gen, .slice A a.scopes.length c] 83)).heap[w.heap.size]? = some (.cells #[.int .i64 n.kind, .int .i64 n.num, .string n.text, .slice A3 n.names.length c3, .slice A4 n.kids.length c4, .int .i64 n.at_] 38 (0, 0)) := by
    rw [heap_alloc_old _ _ (by simp)]; exact heap_alloc_new _ _
  have r5 : ((w.alloc (.cells #[.int .i64 n.kind, .int .i64 n.num, .string n.text, .slice A3 n.names.length c3, .slice A4 n.kids.length c4, .int .i64 n.at_] 38)).alloc (.cells #[.bool a.loop, .bool a.fun_, .bool a.gen, .slice A a.scopes.length c] 83)).heap[w.heap.size + 1]? = some (.cells #[.bool a.loop, .bool a.fun_, .bool a.gen, .slice A a.scopes.length c] 83 (0, 0)) := by
    have := heap_alloc_new (w.alloc (.cells #[.int .i64 n.kind, .int .i64 n.num, .string n.text, .slice A3 n.names.length c3, .slice A4 n.kids.length c4, .int .i64 n.at_] 38)) (.cells #[.bool a.loop, .bool a.fun_, .bool a.gen, .slice A a.scopes.length c] 83)
    rwa [show (w.alloc (.cells #[.int .i64 n.kind, .int .i64 n.num, .string n.text, .slice A3 n.names.length c3, .slice A4 n.kids.length c4, .int .i64 n.at_] 38)).heap.size = w.heap.size + 1 by simp] at this
  have HA := hid (ha.below hb)
  have HFw := hid (Kd.F_below HF.out hb)
  have HB := hid hb
  have R4 := hid r4
  have R5 := hid r5
  clear h ha hb r4 r5
  unfold ptr arV
  go_enter Try.func72, Try.ntmps72
  go_upto_region 1 with fail
  generalize ((w.alloc (.cells #[.int .i64 n.kind, .int .i64 n.num, .string n.text, .slice A3 n.names.length c3, .slice A4 n.kids.length c4, .int .i64 n.at_] 38)).alloc (.cells #[.bool a.loop, .bool a.fun_, .bool a.gen, .slice A a.scopes.length c] 83)) = W at *
  have d0 := (cell_of_row _ _ 0 _ _ _ R4.out).trans (b := some (Value.int .i64 n.kind)) rfl
  cases hk : decide (n.kind = 10)
  · have t0 : (n.kind == (10 : Int)) = false := hk
    have HK := hid hk
    clear hk
    go_wp2_with fail
    go_ret
    exact ⟨ret_bool (by rw [HK.out]; rfl), HB.out⟩
  · have t0 : (n.kind == (10 : Int)) = true := hk
    obtain ⟨h1, h2, h3⟩ := HQ.out (of_decide_eq_true hk)
    have d3 := (cell_of_row _ _ 3 _ _ _ R4.out).trans (b := some (Value.slice A3 n.names.length c3)) rfl
    have HT := hid (twice_c (c := c3) (Kd.F_now HFw.out) h2 h3)
    have H1 := hid h1
    have HK := hid hk
    clear hk h1 h2 h3
    go_wp2_with fail
    refine HT.out.mono ?_
    rintro e w3 ⟨rfl, hb3⟩
    have HB3 := hid (HB.out.trans (hb3.mono HB.out.size))
    clear hb3
    go_wp2_with fail
    go_ret
    exact ⟨ret_bool (by rw [HK.out, H1.out]; rfl), HB3.out⟩
set_option maxHeartbeats 1600000 in
set_option maxRecDepth 100000 in
theorem rule2_c (h : EI G w okb bv bad) (ha : AE w oks v a) : Calls Try.prog 76 #[ptr G.a, (.agg #[.int .i64 n.kind, .int .i64 n.num, .string n.text, .slice A3 n.names.length c3, .slice A4 n.kids.length c4, .int .i64 n.at_]), arV a v] w fun e w' => e = .returned (.bool ((decide (n.kind = 28) || decide (n.kind = 29)) && !a.loop)) ∧ Below w.heap.size w w' := by
  obtain ⟨A, c, rfl, _⟩ := id ha
  have hb : Below w.heap.size w ((w.alloc (.cells #[.int .i64 n.kind, .int .i64 n.num, .string n.text, .slice A3 n.names.length c3, .slice A4 n.kids.length c4, .int .i64 n.at_] 38)).alloc (.cells #[.bool a.loop, .bool a.fun_, .bool a.gen, .slice A a.scopes.length c] 83)) := ((Below.refl _ _).alloc (Nat.le_refl _) _).alloc (by simp) _
  have r4 : ((w.alloc (.cells #[.int .i64 n.kind, .int .i64 n.num, .string n.text, .slice A3 n.names.length c3, .slice A4 n.kids.length c4, .int .i64 n.at_] 38)).alloc (.cells #[.bool a.loop, .bool a.fun_, .bool a.gen, .slice A a.scopes.length c] 83)).heap[w.heap.size]? = some (.cells #[.int .i64 n.kind, .int .i64 n.num, .string n.text, .slice A3 n.names.length c3, .slice A4 n.kids.length c4, .int .i64 n.at_] 38 (0, 0)) := by
    rw [heap_alloc_old _ _ (by simp)]; exact heap_alloc_new _ _
  have r5 : ((w.alloc (.cells #[.int .i64 n.kind, .int .i64 n.num, .string n.text, .slice A3 n.names.length c3, .slice A4 n.kids.length c4, .int .i64 n.at_] 38)).alloc (.cells #[.bool a.loop, .bool a.fun_, .bool a.gen, .slice A a.scopes.length c] 83)).heap[w.heap.size + 1]? = some (.cells #[.bool a.loop, .bool a.fun_, .bool a.gen, .slice A a.scopes.length c] 83 (0, 0)) := by
    have := heap_alloc_new (w.alloc (.cells #[.int .i64 n.kind, .int .i64 n.num, .string n.text, .slice A3 n.names.length c3, .slice A4 n.kids.length c4, .int .i64 n.at_] 38)) (.cells #[.bool a.loop, .bool a.fun_, .bool a.gen, .slice A a.scopes.length c] 83)
    rwa [show (w.alloc (.cells #[.int .i64 n.kind, .int .i64 n.num, .string n.text, .slice A3 n.names.length c3, .slice A4 n.kids.length c4, .int .i64 n.at_] 38)).heap.size = w.heap.size + 1 by simp] at this
  have HA := hid (ha.below hb)
  have HI := hid (h.below hb)
  have HB := hid hb
  have R4 := hid r4
  have R5 := hid r5
  clear h ha hb r4 r5
  unfold ptr arV
  go_enter Try.func76, Try.ntmps76
  go_upto_region 1 with fail
  generalize ((w.alloc (.cells #[.int .i64 n.kind, .int .i64 n.num, .string n.text, .slice A3 n.names.length c3, .slice A4 n.kids.length c4, .int .i64 n.at_] 38)).alloc (.cells #[.bool a.loop, .bool a.fun_, .bool a.gen, .slice A a.scopes.length c] 83)) = W at *
  have d0 := (cell_of_row _ _ 0 _ _ _ R4.out).trans (b := some (Value.int .i64 n.kind)) rfl
  have d1 := (cell_of_row _ _ 0 _ _ _ R5.out).trans (b := some (Value.bool a.loop)) rfl
  cases hk : decide (n.kind = 28)
  · have t0 : (n.kind == (28 : Int)) = false := hk
    cases hk2 : decide (n.kind = 29)
    · have t1 : (n.kind == (29 : Int)) = false := hk2
      have HK := hid hk
      have HK2 := hid hk2
      clear hk hk2
      go_wp2_with fail
      go_ret
      exact ⟨ret_bool (by rw [HK.out, HK2.out]; rfl), HB.out⟩
    · have t1 : (n.kind == (29 : Int)) = true := hk2
      have HK := hid hk
      have HK2 := hid hk2
      clear hk hk2
      go_wp2_with fail
      go_ret
      exact ⟨ret_bool (by rw [HK.out, HK2.out]; simp), HB.out⟩
  · have t0 : (n.kind == (28 : Int)) = true := hk
    have HK := hid hk
    clear hk
    go_wp2_with fail
    go_ret
    exact ⟨ret_bool (by rw [HK.out]; simp), HB.out⟩
set_option maxHeartbeats 1600000 in
set_option maxRecDepth 100000 in
theorem rule3_c (h : EI G w okb bv bad) (ha : AE w oks v a) : Calls Try.prog 77 #[ptr G.a, (.agg #[.int .i64 n.kind, .int .i64 n.num, .string n.text, .slice A3 n.names.length c3, .slice A4 n.kids.length c4, .int .i64 n.at_]), arV a v] w fun e w' => e = .returned (.bool (decide (n.kind = 20) && !a.gen)) ∧ Below w.heap.size w w' := by
  obtain ⟨A, c, rfl, _⟩ := id ha
  have hb : Below w.heap.size w ((w.alloc (.cells #[.int .i64 n.kind, .int .i64 n.num, .string n.text, .slice A3 n.names.length c3, .slice A4 n.kids.length c4, .int .i64 n.at_] 38)).alloc (.cells #[.bool a.loop, .bool a.fun_, .bool a.gen, .slice A a.scopes.length c] 83)) := ((Below.refl _ _).alloc (Nat.le_refl _) _).alloc (by simp) _
  have r4 : ((w.alloc (.cells #[.int .i64 n.kind, .int .i64 n.num, .string n.text, .slice A3 n.names.length c3, .slice A4 n.kids.length c4, .int .i64 n.at_] 38)).alloc (.cells #[.bool a.loop, .bool a.fun_, .bool a.gen, .slice A a.scopes.length c] 83)).heap[w.heap.size]? = some (.cells #[.int .i64 n.kind, .int .i64 n.num, .string n.text, .slice A3 n.names.length c3, .slice A4 n.kids.length c4, .int .i64 n.at_] 38 (0, 0)) := by
    rw [heap_alloc_old _ _ (by simp)]; exact heap_alloc_new _ _
  have r5 : ((w.alloc (.cells #[.int .i64 n.kind, .int .i64 n.num, .string n.text, .slice A3 n.names.length c3, .slice A4 n.kids.length c4, .int .i64 n.at_] 38)).alloc (.cells #[.bool a.loop, .bool a.fun_, .bool a.gen, .slice A a.scopes.length c] 83)).heap[w.heap.size + 1]? = some (.cells #[.bool a.loop, .bool a.fun_, .bool a.gen, .slice A a.scopes.length c] 83 (0, 0)) := by
    have := heap_alloc_new (w.alloc (.cells #[.int .i64 n.kind, .int .i64 n.num, .string n.text, .slice A3 n.names.length c3, .slice A4 n.kids.length c4, .int .i64 n.at_] 38)) (.cells #[.bool a.loop, .bool a.fun_, .bool a.gen, .slice A a.scopes.length c] 83)
    rwa [show (w.alloc (.cells #[.int .i64 n.kind, .int .i64 n.num, .string n.text, .slice A3 n.names.length c3, .slice A4 n.kids.length c4, .int .i64 n.at_] 38)).heap.size = w.heap.size + 1 by simp] at this
  have HA := hid (ha.below hb)
  have HI := hid (h.below hb)
  have HB := hid hb
  have R4 := hid r4
  have R5 := hid r5
  clear h ha hb r4 r5
  unfold ptr arV
  go_enter Try.func77, Try.ntmps77
  go_upto_region 1 with fail
  generalize ((w.alloc (.cells #[.int .i64 n.kind, .int .i64 n.num, .string n.text, .slice A3 n.names.length c3, .slice A4 n.kids.length c4, .int .i64 n.at_] 38)).alloc (.cells #[.bool a.loop, .bool a.fun_, .bool a.gen, .slice A a.scopes.length c] 83)) = W at *
  have d0 := (cell_of_row _ _ 0 _ _ _ R4.out).trans (b := some (Value.int .i64 n.kind)) rfl
  have d1 := (cell_of_row _ _ 2 _ _ _ R5.out).trans (b := some (Value.bool a.gen)) rfl
  cases hk : decide (n.kind = 20)
  · have t0 : (n.kind == (20 : Int)) = false := hk
    have HK := hid hk
    clear hk
    go_wp2_with fail
    go_ret
    exact ⟨ret_bool (by rw [HK.out]; rfl), HB.out⟩
  · have t0 : (n.kind == (20 : Int)) = true := hk
    have HK := hid hk
    clear hk
    go_wp2_with fail
    go_ret
    exact ⟨ret_bool (by rw [HK.out]; simp), HB.out⟩
set_option maxHeartbeats 1600000 in
set_option maxRecDepth 100000 in
theorem rule4_c (h : EI G w okb bv bad) (ha : AE w oks v a) : Calls Try.prog 78 #[ptr G.a, (.agg #[.int .i64 n.kind, .int .i64 n.num, .string n.text, .slice A3 n.names.length c3, .slice A4 n.kids.length c4, .int .i64 n.at_]), arV a v] w fun e w' => e = .returned (.bool (decide (n.kind = 30) && !a.fun_)) ∧ Below w.heap.size w w' := by
  obtain ⟨A, c, rfl, _⟩ := id ha
  have hb : Below w.heap.size w ((w.alloc (.cells #[.int .i64 n.kind, .int .i64 n.num, .string n.text, .slice A3 n.names.length c3, .slice A4 n.kids.length c4, .int .i64 n.at_] 38)).alloc (.cells #[.bool a.loop, .bool a.fun_, .bool a.gen, .slice A a.scopes.length c] 83)) := ((Below.refl _ _).alloc (Nat.le_refl _) _).alloc (by simp) _
  have r4 : ((w.alloc (.cells #[.int .i64 n.kind, .int .i64 n.num, .string n.text, .slice A3 n.names.length c3, .slice A4 n.kids.length c4, .int .i64 n.at_] 38)).alloc (.cells #[.bool a.loop, .bool a.fun_, .bool a.gen, .slice A a.scopes.length c] 83)).heap[w.heap.size]? = some (.cells #[.int .i64 n.kind, .int .i64 n.num, .string n.text, .slice A3 n.names.length c3, .slice A4 n.kids.length c4, .int .i64 n.at_] 38 (0, 0)) := by
    rw [heap_alloc_old _ _ (by simp)]; exact heap_alloc_new _ _
  have r5 : ((w.alloc (.cells #[.int .i64 n.kind, .int .i64 n.num, .string n.text, .slice A3 n.names.length c3, .slice A4 n.kids.length c4, .int .i64 n.at_] 38)).alloc (.cells #[.bool a.loop, .bool a.fun_, .bool a.gen, .slice A a.scopes.length c] 83)).heap[w.heap.size + 1]? = some (.cells #[.bool a.loop, .bool a.fun_, .bool a.gen, .slice A a.scopes.length c] 83 (0, 0)) := by
    have := heap_alloc_new (w.alloc (.cells #[.int .i64 n.kind, .int .i64 n.num, .string n.text, .slice A3 n.names.length c3, .slice A4 n.kids.length c4, .int .i64 n.at_] 38)) (.cells #[.bool a.loop, .bool a.fun_, .bool a.gen, .slice A a.scopes.length c] 83)
    rwa [show (w.alloc (.cells #[.int .i64 n.kind, .int .i64 n.num, .string n.text, .slice A3 n.names.length c3, .slice A4 n.kids.length c4, .int .i64 n.at_] 38)).heap.size = w.heap.size + 1 by simp] at this
  have HA := hid (ha.below hb)
  have HI := hid (h.below hb)
  have HB := hid hb
  have R4 := hid r4
  have R5 := hid r5
  clear h ha hb r4 r5
  unfold ptr arV
  go_enter Try.func78, Try.ntmps78
  go_upto_region 1 with fail
  generalize ((w.alloc (.cells #[.int .i64 n.kind, .int .i64 n.num, .string n.text, .slice A3 n.names.length c3, .slice A4 n.kids.length c4, .int .i64 n.at_] 38)).alloc (.cells #[.bool a.loop, .bool a.fun_, .bool a.gen, .slice A a.scopes.length c] 83)) = W at *
  have d0 := (cell_of_row _ _ 0 _ _ _ R4.out).trans (b := some (Value.int .i64 n.kind)) rfl
  have d1 := (cell_of_row _ _ 1 _ _ _ R5.out).trans (b := some (Value.bool a.fun_)) rfl
  cases hk : decide (n.kind = 30)
  · have t0 : (n.kind == (30 : Int)) = false := hk
    have HK := hid hk
    clear hk
    go_wp2_with fail
    go_ret
    exact ⟨ret_bool (by rw [HK.out]; rfl), HB.out⟩
  · have t0 : (n.kind == (30 : Int)) = true := hk
    have HK := hid hk
    clear hk
    go_wp2_with fail
    go_ret
    exact ⟨ret_bool (by rw [HK.out]; simp), HB.out⟩
set_option maxHeartbeats 1600000 in
set_option maxRecDepth 100000 in
theorem rule1_c (h : EI G w okb bv bad) (ha : AE w oks v a) {q : Bool} (hq : n.kind = 19 → ∃ j m, n.kids[0]? = some j ∧ G.l[j]? = some m ∧ ((m.kind = 3 ∧ fixedF G.spots a j = some q) ∨ (m.kind ≠ 3 ∧ q = false))) (hF : Kd.F (Kd.int .i64) w G.okl A4 n.kids.length (ints n.kids)) : Calls Try.prog 74 #[ptr G.a, (.agg #[.int .i64 n.kind, .int .i64 n.num, .string n.text, .slice A3 n.names.length c3, .slice A4 n.kids.length c4, .int .i64 n.at_]), arV a v] w fun e w' => e = .returned (.bool (decide (n.kind = 19) && q)) ∧ Below w.heap.size w w' := by
  have HF := hid hF
  have HQ := hid hq
  clear hF hq
  obtain ⟨A, c, rfl, _⟩ := id ha
  have hb : Below w.heap.size w ((w.alloc (.cells #[.int .i64 n.kind, .int .i64 n.num, .string n.text, .slice A3 n.names.length c3, .slice A4 n.kids.length c4, .int .i64 n.at_] 38)).alloc (.cells #[.bool a.loop, .bool a.fun_, .bool a.gen, .slice A a.scopes.length c] 83)) := ((Below.refl _ _).alloc (Nat.le_refl _) _).alloc (by simp) _
  have r4 : ((w.alloc (.cells #[.int .i64 n.kind, .int .i64 n.num, .string n.text, .slice A3 n.names.length c3, .slice A4 n.kids.length c4, .int .i64 n.at_] 38)).alloc (.cells #[.bool a.loop, .bool a.fun_, .bool a.gen, .slice A a.scopes.length c] 83)).heap[w.heap.size]? = some (.cells #[.int .i64 n.kind, .int .i64 n.num, .string n.text, .slice A3 n.names.length c3, .slice A4 n.kids.length c4, .int .i64 n.at_] 38 (0, 0)) := by
    rw [heap_alloc_old _ _ (by simp)]; exact heap_alloc_new _ _
  have r5 : ((w.alloc (.cells #[.int .i64 n.kind, .int .i64 n.num, .string n.text, .slice A3 n.names.length c3, .slice A4 n.kids.length c4, .int .i64 n.at_] 38)).alloc (.cells #[.bool a.loop, .bool a.fun_, .bool a.gen, .slice A a.scopes.length c] 83)).heap[w.heap.size + 1]? = some (.cells #[.bool a.loop, .bool a.fun_, .bool a.gen, .slice A a.scopes.length c] 83 (0, 0)) := by
    have := heap_alloc_new (w.alloc (.cells #[.int .i64 n.kind, .int .i64 n.num, .string n.text, .slice A3 n.names.length c3, .slice A4 n.kids.length c4, .int .i64 n.at_] 38)) (.cells #[.bool a.loop, .bool a.fun_, .bool a.gen, .slice A a.scopes.length c] 83)
    rwa [show (w.alloc (.cells #[.int .i64 n.kind, .int .i64 n.num, .string n.text, .slice A3 n.names.length c3, .slice A4 n.kids.length c4, .int .i64 n.at_] 38)).heap.size = w.heap.size + 1 by simp] at this
  have HA := hid (ha.below hb)
  have HI := hid (h.below hb)
  have HFw := hid (Kd.F_below HF.out hb)
  have HB := hid hb
  have R4 := hid r4
  have R5 := hid r5
  clear h ha hb r4 r5
  unfold ptr arV
  go_enter Try.func74, Try.ntmps74
  go_upto_region 1 with fail
  generalize ((w.alloc (.cells #[.int .i64 n.kind, .int .i64 n.num, .string n.text, .slice A3 n.names.length c3, .slice A4 n.kids.length c4, .int .i64 n.at_] 38)).alloc (.cells #[.bool a.loop, .bool a.fun_, .bool a.gen, .slice A a.scopes.length c] 83)) = W at *
  have d0 := (cell_of_row _ _ 0 _ _ _ R4.out).trans (b := some (Value.int .i64 n.kind)) rfl
  cases hk : decide (n.kind = 19)
  · have t0 : (n.kind == (19 : Int)) = false := hk
    have HK := hid hk
    clear hk
    go_wp2_with fail
    go_quiet (fail)
    go_wp2_with fail
    go_ret
    exact ⟨ret_bool (by rw [HK.out]; rfl), pw_below_drewN HB.out _⟩
  · have t0 : (n.kind == (19 : Int)) = true := hk
    obtain ⟨j, m, hj, hm, hcase⟩ := HQ.out (of_decide_eq_true hk)
    have hjl := (List.getElem?_eq_some_iff.1 hj).1
    have hjl0 : (0 : Int) < (n.kids.length : Int) := by omega
    obtain ⟨ad, rfl, q0⟩ := Kd.at_int (Kd.F_now HFw.out) 0 (by omega) (by omega)
    have hx : rd (ints n.kids) 0 = (j : Int) := by unfold rd ints; simp [List.getElem?_map, hj]
    rw [hx] at q0
    have q0' : W.cell? ad = some (.int .i64 j) := by simpa [Addr.add] using q0
    obtain ⟨_, _, _, _, hjL, m0, _⟩ := HI.out.nodes.node hm
    have hjL' : (j : Int) < (G.l.length : Int) := by omega
    have a0 := HI.out.c0
    have d4 := (cell_of_row _ _ 4 _ _ _ R4.out).trans (b := some (Value.slice (some ad) n.kids.length c4)) rfl
    have e0 := (cell_of_row _ _ 0 _ _ _ R5.out).trans (b := some (Value.bool a.loop)) rfl
    have e1 := (cell_of_row _ _ 1 _ _ _ R5.out).trans (b := some (Value.bool a.fun_)) rfl
    have e2 := (cell_of_row _ _ 2 _ _ _ R5.out).trans (b := some (Value.bool a.gen)) rfl
    have e3 := (cell_of_row _ _ 3 _ _ _ R5.out).trans (b := some (Value.slice A a.scopes.length c)) rfl
    have u0 := ov_cell (cell_lt d0) d0
    have u4 := ov_cell (cell_lt d4) d4
    have ua := ov_cell (cell_lt a0) a0
    have uj : ∀ x : Over W, (ov W x).cell? ad = some (.int .i64 j) := fun x => by rw [(ov_below x).cell (cell_lt q0'), q0']
    have um := ov_cell (cell_lt m0) m0
    have v0 := ov_cell (cell_lt e0) e0
    have v1 := ov_cell (cell_lt e1) e1
    have v2 := ov_cell (cell_lt e2) e2
    have v3 := ov_cell (cell_lt e3) e3
    have HK := hid hk
    clear hk hj hm hx q0 d0 d4 a0 q0' m0 e0 e1 e2 e3
    rcases hcase with ⟨h3, hfx⟩ | ⟨h3, hfx⟩
    · have t3 : (m.kind == (3 : Int)) = true := by simp [h3]
      have HFX := hid hfx
      clear h3 hfx
      refine wp_region_over_lit (by kernel_rfl) (by kernel_rfl) ?_
      repeat (first
        | go_big_quiet_step ((go_at_call 75; exact calls_over (fixed_c (HI.out.below (ov_below _)) (HA.out.below (ov_below _)) HFX.out))))
      refine wpQuiet_nil ?_
      intro W' hW'
      obtain ⟨x, rfl⟩ := hW'
      go_wp2
      go_ret
      exact ⟨ret_bool (by rw [HK.out]; simp), HB.out.trans ((ov_below x).mono HB.out.size)⟩
    · have t3 : (m.kind == (3 : Int)) = false := by simp [h3]
      have HFX := hid hfx
      clear h3 hfx
      refine wp_region_over_lit (by kernel_rfl) (by kernel_rfl) ?_
      repeat (first
        | go_big_quiet_step (fail))
      refine wpQuiet_nil ?_
      intro W' hW'
      obtain ⟨x, rfl⟩ := hW'
      go_wp2
      go_ret
      exact ⟨ret_bool (by rw [HK.out, HFX.out]; simp), HB.out.trans ((ov_below x).mono HB.out.size)⟩
end
end Go.Proofs.Yticbjhicjegfoaa.Q
namespace Go.Proofs.Yticbjhicjegfoaa.Q
open Go.RowKit
open Go.Proofs.YticbjhicjegfoaaW.PrintWords
theorem infoOpen : (Try.prog.info? 119).map (fun i => (i.zero, i.size, i.bytes)) = some (some (.agg #[.slice none 0 0, .slice none 0 0]), 2, 48) := by kernel_rfl
theorem infoBool : (Try.prog.info? 4).map (fun i => (i.zero, i.size, i.bytes)) = some (some (.bool false), 1, 1) := by kernel_rfl
theorem make_bools {n : Nat} (hn : n ≤ 1048576) (w : World) : (Instr.makeSlice 28 (.int .i64 (n : Int)) (.int .i64 (n : Int))).run Try.prog w = .ok (.slice (some ⟨w.heap.size, 0, none⟩) n n) (w.alloc (.cells (List.replicate n (Value.bool false)).toArray 4)) := by
  rw [run_make_row' 28 4 (.bool false) 1 Try.underlying28 infoBool rfl .i64 .i64 n (by omega) (by omega) w]
  have e : madeCells #[.bool false] n = (List.replicate n (Value.bool false)).toArray := by
    apply Array.toList_inj.1
    rw [toList_madeCells_one]
  rw [e]
/-- A row of bools of the call's own. -/
def OB (n0 : Nat) (w : World) (val : Value) (l : List Bool) : Prop := Kd.N Kd.bool 4 w 0 (fun k => some k = val.ownBlock) val l ∧ ∀ k, val.ownBlock = some k → n0 ≤ k ∧ k < w.heap.size
theorem N_tightB {e base : Nat} {ok : Nat → Prop} {w : World} {v : Value} {xs : List Bool} (h : Kd.N Kd.bool e w base ok v xs) : Kd.N Kd.bool e w base (fun k => some k = v.ownBlock) v xs := by
  obtain ⟨h0, rows, hl, hR, hf⟩ := h
  exact ⟨fun k hk => hk.symm, rows, hl, hR, fun j x c hx hc W' _ => by have h1 := Kd.FK_now (hf j x c hx hc); exact h1⟩
section
variable {w w' w1 : World} {n0 : Nat} {val val1 : Value} {l : List Bool} {oks : Nat → Prop} {v : Value} {a : Ar}
theorem OB.below (h : OB n0 w val l) (hb : Below w.heap.size w w') : OB n0 w' val l := ⟨Kd.N_below h.1 hb, fun k hk => ⟨(h.2 k hk).1, Nat.lt_of_lt_of_le (h.2 k hk).2 hb.size⟩⟩
theorem OB.slice (h : OB n0 w val l) : ∃ A c, val = .slice A l.length c := Kd.N_slice h.1
theorem OB.grow {okn : Nat → Prop} {l' : List Bool} (h : OB n0 w val l) (h0 : n0 ≤ w.heap.size) (hN : Kd.N Kd.bool 4 w1 0 okn val1 l') (hat : val1.ownBlock = val.ownBlock ∨ ∃ b, val1.ownBlock = some b ∧ w.heap.size ≤ b) : OB n0 w1 val1 l' :=
  ⟨N_tightB hN, fun k hk => by
    have hlt := Kd.N_lt hN k hk
    rcases hat with hat | ⟨b, hb, hle⟩
    · rw [hat] at hk; exact ⟨(h.2 k hk).1, hlt⟩
    · rw [hb] at hk; injection hk with hk; exact ⟨by omega, hlt⟩⟩
theorem OB.made (w : World) (n : Nat) (hn : n ≤ 1048576) : OB w.heap.size (w.alloc (.cells (List.replicate n (Value.bool false)).toArray 4)) (.slice (some ⟨w.heap.size, 0, none⟩) n n) (List.replicate n false) := by
  have ho := World.ownsRow_lit (base := w.heap.size) (e := 4) (size := 1) w (List.replicate n (Value.bool false)).toArray n (Nat.le_refl _) (by unfold maxLen; omega) (by simp)
  have hR : Kd.R Kd.bool 4 (w.alloc (.cells (List.replicate n (Value.bool false)).toArray 4)) w.heap.size (fun j => j = w.heap.size) (.slice (some ⟨w.heap.size, 0, none⟩) n n) (List.replicate n false) := by
    refine ⟨fun j hj => by simpa [Value.ownBlock] using hj.symm, List.replicate n (Value.bool false), (by rw [List.length_replicate]; exact ho), (by rw [List.length_replicate, List.length_replicate]; exact (Nat.mul_one n).symm), fun j p hp => ?_⟩
    obtain ⟨hj, rfl⟩ : j < n ∧ p = false := by
      have h1 := (List.getElem?_eq_some_iff.1 hp).1
      rw [List.length_replicate] at h1
      rw [List.getElem?_replicate, if_pos h1] at hp
      exact ⟨h1, by injection hp with hp; exact hp.symm⟩
    show ((List.replicate n (Value.bool false)).drop (j * 1)).take 1 = [Value.bool false]
    rw [Nat.mul_one, List.drop_replicate, List.take_replicate]
    have : min 1 (n - j) = 1 := by omega
    rw [this]; rfl
  refine ⟨N_tightB (Kd.N_lower (Kd.R_N hR) (Nat.zero_le _)), fun k hk => ?_⟩
  simp [Value.ownBlock] at hk
  subst hk
  exact ⟨Nat.le_refl _, by simp⟩
set_option maxHeartbeats 1600000 in
set_option maxRecDepth 100000 in
theorem cloneO_c (h : AE w oks v a) (ho : ∀ k, oks k → k < w.heap.size) (hl : a.scopes.length ≤ 1048576) : Calls Try.prog 79 #[v] w fun e w' => ∃ val, e = .returned val ∧ Kd.N kOpn 119 w' 0 (fun k => oks k ∨ w.heap.size ≤ k) val a.scopes ∧ (∀ k, val.ownBlock = some k → w.heap.size ≤ k) ∧ Below w.heap.size w w' := by
  obtain ⟨A, c, rfl, hlc, hF⟩ := h
  have hq := fun (w : World) (a : Option Addr) (n c n' c' : Nat) => Lib.run_eql_slice_nil (P := Try.prog) w 81 119 a n c n' c' Try.underlying81
  cases A with
  | none =>
    have hl0 : a.scopes = [] := by
      cases hs : a.scopes with
      | nil => rfl
      | cons x l =>
        rw [hs] at hF
        obtain ⟨ad, e, _⟩ := (Kd.F_now hF).2.2 (by simp)
        cases e
    rw [hl0]
    clear hF
    go_enter Try.func79, Try.ntmps79
    go_wp2_with fail
    go_ret
    exact ⟨_, rfl, Kd.N_nil _ _ _ _ _, fun k hk => by simp [Value.ownBlock] at hk, Below.refl _ _⟩
  | some ad =>
    have hf := Kd.F_alloc hF (.cells #[] 119)
    have HF := hid hf
    have HO := hid ho
    have hmade : Kd.N kOpn 119 (w.alloc (.cells #[] 119)) w.heap.size (fun k => oks k ∨ w.heap.size ≤ k) (.slice (some ⟨w.heap.size, 0, none⟩) 0 0) [] := by
      have ho := World.ownsRow_made (base := w.heap.size) (e := 119) (size := 2) w #[] 0 (Nat.le_refl _) (Nat.zero_le _) rfl
      have hR : Kd.R kOpn 119 (w.alloc (.cells #[] 119)) w.heap.size (fun k => oks k ∨ w.heap.size ≤ k) (.slice (some ⟨w.heap.size, 0, none⟩) 0 0) [] := by
        refine ⟨fun j hj => .inr (by simp [Value.ownBlock] at hj; omega), [], ho, rfl, fun j p hp => by simp at hp⟩
      exact Kd.R_N hR
    have HM := hid hmade
    have HB := hid ((Below.refl w.heap.size w).alloc (Nat.le_refl _) (.cells #[] 119))
    clear hF hf hmade ho
    go_enter Try.func79, Try.ntmps79
    go_wp2_with (at_builtin; refine Kd.N_append_rows kOpn (w0 := w) w.heap.size rfl _ _ 81 119 (.agg #[.slice none 0 0, .slice none 0 0]) 48 rfl Try.underlying81 infoOpen rfl (by decide) (by decide) (.slice (some ⟨w.heap.size, 0, none⟩) 0 0) [] a.scopes (some ad) a.scopes.length c (fun k => oks k ∨ w.heap.size ≤ k) oks ?c1 ?c2 HM.out HF.out ?c3 (fun k hk => .inr (by simp at hk; omega)) HB.out (by simp) (by simp; omega) ?_; (case c1 => rfl); (case c2 => rfl); (case c3 => intro k hk; exact ⟨.inl hk, fun e => by have := HO.out k hk; simp [Value.ownBlock] at e; omega⟩); intro v1 w1 hN hB hg hat; have HN1 := hid hN; have HB1 := hid hB; have HAT := hid hat; clear hN hB hg hat)
    go_ret
    refine ⟨_, rfl, Kd.N_lower (by simpa using HN1.out) (Nat.zero_le _), fun k hk => ?_, HB1.out⟩
    have hk : v1.ownBlock = some k := hk
    rcases HAT.out with h | ⟨b, h, hle⟩
    · rw [hk] at h
      simp [Value.ownBlock] at h
      omega
    · rw [hk] at h
      injection h with h
      simp at hle
      omega
end
end Go.Proofs.Yticbjhicjegfoaa.Q
namespace Go.Proofs.Yticbjhicjegfoaa.Q
open Go.RowKit
open Go.Proofs.YticbjhicjegfoaaW.PrintWords
/-- look, so many calls deep, does what lookE says. -/
def LookOkE (G : EG) (m : Nat) : Prop := ∀ {a : Ar} {k : Nat} {bad bad' : List Nat}, lookE G.l G.spots G.slots m a k bad = some bad' → ∀ {w : World} {okb oks : Nat → Prop} {bv v : Value}, EI G w okb bv bad → AE w oks v a → (∀ k, oks k → k ≠ G.a ∧ ¬ okb k ∧ k < w.heap.size) →
  Calls Try.prog 33 #[ptr G.a, arV a v, .int .i64 k] w fun e w' => e = .returned (.tuple #[]) ∧ EN G w okb w' bad'
section
variable {G : EG} {w w' : World} {okb oks : Nat → Prop} {bv v : Value} {bad bad' : List Nat} {a : Ar} {m : Nat} {ks : List Nat} {A4 : Option Addr} {c4 : Nat}
set_option maxHeartbeats 1600000 in
set_option maxRecDepth 100000 in
theorem allE_c (ih : LookOkE G m) (hr : allE (lookE G.l G.spots G.slots m a) ks bad = some bad') (h : EI G w okb bv bad) (ha : AE w oks v a) (ho : ∀ k, oks k → k ≠ G.a ∧ ¬ okb k ∧ k < w.heap.size) (hk : Kd.F (Kd.int .i64) w G.okl A4 ks.length (ints ks)) :
    Calls Try.prog 56 #[ptr G.a, arV a v, .slice A4 ks.length c4] w fun e w' => e = .returned (.tuple #[]) ∧ EN G w okb w' bad' := by
  have hmax : ks.length ≤ 9223372036854775807 := Kd.F_max hk
  obtain ⟨A, c, rfl, _⟩ := id ha
  have hb : Below w.heap.size w (w.alloc (.cells #[.bool a.loop, .bool a.fun_, .bool a.gen, .slice A a.scopes.length c] 83)) := (Below.refl _ _).alloc (Nat.le_refl _) _
  have r4 := heap_alloc_new w (.cells #[.bool a.loop, .bool a.fun_, .bool a.gen, .slice A a.scopes.length c] 83)
  have H := hid (h.below hb)
  have HA := hid (ha.below hb)
  have HK := hid (Kd.F_below hk hb)
  have HO := hid (fun k hk => (⟨(ho k hk).1, (ho k hk).2.1, Nat.lt_of_lt_of_le (ho k hk).2.2 hb.size⟩ : k ≠ G.a ∧ ¬ okb k ∧ k < (w.alloc (.cells #[.bool a.loop, .bool a.fun_, .bool a.gen, .slice A a.scopes.length c] 83)).heap.size))
  have HN := hid (show ¬ EK G okb w.heap.size from fun q => q.elim (fun q => by have := h.lt.1; omega) (fun q => by have := (h.off _ q).2.2.2.2; omega))
  have HB := hid hb
  have R4 := hid r4
  have HR := hid hr
  have IH := hid @ih
  clear h ha hb r4 hk hr ih ho
  unfold ptr arV
  go_enter Try.func56, Try.ntmps56
  go_wp2_with fail
  generalize (w.alloc (.cells #[.bool a.loop, .bool a.fun_, .bool a.gen, .slice A a.scopes.length c] 83)) = W at *
  have HS := hid H.out.same
  go_loopw [10] (fun x wx => ∃ (j : Nat) (T : List Nat), j ≤ ks.length ∧ x = .int .i64 j ∧ Box (EN G W okb wx T) ∧ Box (allE (lookE G.l G.spots G.slots m a) (ks.drop j) T = some bad')) (fun x _ => ks.length - (RowKit.intOf x).toNat)
  case atStart => exact ⟨0, bad, Nat.zero_le _, rfl, HS, HR⟩
  case round =>
    clear HR HS
    obtain ⟨j, T, hj, rfl, HT, HR⟩ := hrel
    rcases Nat.lt_or_ge j ks.length with hlt | hge
    · have hlt' : (j : Int) < (ks.length : Int) := by omega
      have hp : (0 : Int) ≤ (j : Int) := by omega
      obtain ⟨o1, v1, h1, k1, s1⟩ := id HT.out
      have hk1 := Kd.F_step HK.out (W1 := wr) (fun j hj _ => k1.offE H.out.offL j hj)
      obtain ⟨ad, rfl, hc⟩ := Kd.at_int (Kd.F_now hk1) (j : Int) (by omega) (by omega)
      have hx : rd (ints ks) (j : Int) = (ks[j] : Int) := by unfold rd ints; simp [hlt]
      rw [hx, Int.toNat_natCast] at hc
      have hr := HR.out
      rw [List.drop_eq_getElem_cons hlt] at hr
      unfold allE at hr
      obtain ⟨T2, ht, hr⟩ := Option.bind_eq_some_iff.1 hr
      generalize ks[j] = k at hc ht
      have r4 := k1.heap R4.out HN.out
      have b0 := (cell_of_row _ _ 0 _ _ _ r4).trans (b := some (Value.bool a.loop)) rfl
      have b1 := (cell_of_row _ _ 1 _ _ _ r4).trans (b := some (Value.bool a.fun_)) rfl
      have b2 := (cell_of_row _ _ 2 _ _ _ r4).trans (b := some (Value.bool a.gen)) rfl
      have b3 := (cell_of_row _ _ 3 _ _ _ r4).trans (b := some (Value.slice A a.scopes.length c)) rfl
      have HA1 := hid (HA.out.step (w' := wr) (k1.offE HO.out))
      have HO1 := hid (fun k hk => (⟨(HO.out k hk).1, fun q => (s1 k q).elim (HO.out k hk).2.1 (fun q => by have := (HO.out k hk).2.2; omega), Nat.lt_of_lt_of_le (HO.out k hk).2.2 k1.size⟩ : k ≠ G.a ∧ ¬ o1 k ∧ k < wr.heap.size))
      have HLT := hid ht
      have HR2 := hid hr
      have H1 := hid h1
      have K1 := hid k1
      have S1 := hid s1
      clear hx hr ht HR h1 k1 s1 hk1 r4
      go_wp2_with fail
      refine (IH.out HLT.out H1.out HA1.out HO1.out).mono ?_
      rintro e w2 ⟨rfl, hL2⟩
      have HT2 : Box (EN G W okb w2 T2) := hid (EN.of K1.out S1.out hL2)
      clear hL2
      go_wp2_with fail
      go_roundw
      case rel => exact ⟨j + 1, T2, by omega, by go_num, HT2, HR2⟩
      case measure => simp [RowKit.intOf]; omega
    · obtain rfl : j = ks.length := by omega
      have hr := HR.out
      rw [List.drop_length] at hr
      obtain rfl : T = bad' := Option.some.inj hr
      clear hr
      go_wp2_with fail
      exact bodyPost_end (results_none rfl _ _ _) rfl ⟨rfl, EN.pre HB.out HT.out⟩
end
end Go.Proofs.Yticbjhicjegfoaa.Q
namespace Go.Proofs.Yticbjhicjegfoaa.Q
open Go.RowKit
open Go.Proofs.YticbjhicjegfoaaW.PrintWords
def ruleV (f : FuncId) : Value := .func (.func f) #[] #[]
def ruleRow : Array Value := #[ruleV 72, ruleV 74, ruleV 76, ruleV 77, ruleV 78]
set_option maxHeartbeats 1600000 in
set_option maxRecDepth 100000 in
theorem rules_c (w : World) : Calls Try.prog 53 #[] w fun e w' => e = .returned (.slice (some ⟨w.heap.size, 0, none⟩) 5 5) ∧ w'.heap[w.heap.size]? = some (.cells ruleRow 99 (0, 0)) ∧ Below w.heap.size w w' := by
  go_enter Try.func53, Try.ntmps53
  go_wp2_with fail
  go_ret
  exact ⟨rfl, heap_alloc_new _ _, (Below.refl _ _).alloc (Nat.le_refl _) _⟩
end Go.Proofs.Yticbjhicjegfoaa.Q
namespace Go.Proofs.Yticbjhicjegfoaa.Q
open Go.RowKit
open Go.Proofs.YticbjhicjegfoaaW.PrintWords
/-- A scope under way: its cell b holds u1 u2; v1 holds the names x, v2 the consts y; of blocks made since there were n0. -/
structure SC (G : EG) (n0 b : Nat) (okb : Nat → Prop) (bv : Value) (w : World) (u1 u2 v1 v2 : Value) (x : List ByteArray) (y : List Bool) (bad : List Nat) : Prop where
  ei : EI G w okb bv bad
  os : OS n0 w v1 x
  ob : OB n0 w v2 y
  cell : w.heap[b]? = some (.cells #[u1, u2] 119 (0, 0))
  d1 : ∀ k, v1.ownBlock = some k → ¬ okb k ∧ k ≠ b ∧ v2.ownBlock ≠ some k
  d2 : ∀ k, v2.ownBlock = some k → ¬ okb k ∧ k ≠ b
  nb : ¬ okb b
  le : n0 ≤ b
  lo : G.a < n0 ∧ G.b1 < n0 ∧ G.b2 < n0 ∧ ∀ k, G.okl k → k < n0
section
variable {G : EG} {n0 b : Nat} {w w' : World} {okb okb' : Nat → Prop} {bv bv' u1 u2 v1 v2 : Value} {x : List ByteArray} {y : List Bool} {bad bad' : List Nat}
theorem SC.lt (h : SC G n0 b okb bv w u1 u2 v1 v2 x y bad) : b < w.heap.size := (Array.getElem?_eq_some_iff.1 h.cell).1
theorem SC.below (h : SC G n0 b okb bv w u1 u2 v1 v2 x y bad) (hb : Below w.heap.size w w') : SC G n0 b okb bv w' u1 u2 v1 v2 x y bad :=
  ⟨h.ei.below hb, h.os.below hb, h.ob.below hb, (hb.block _ h.lt).trans h.cell, h.d1, h.d2, h.nb, h.le, h.lo⟩
theorem SC.c0 (h : SC G n0 b okb bv w u1 u2 v1 v2 x y bad) : w.cell? ⟨b, 0, none⟩ = some u1 := (cell_of_row _ _ 0 _ _ _ h.cell).trans rfl
theorem SC.c1 (h : SC G n0 b okb bv w u1 u2 v1 v2 x y bad) : w.cell? ⟨b, 1, none⟩ = some u2 := (cell_of_row _ _ 1 _ _ _ h.cell).trans rfl
theorem SC.f (h : SC G n0 b okb bv w u1 u2 v1 v2 x y bad) (i : Nat) : w.frozen? ⟨b, i, none⟩ = false := by simp [World.frozen?, h.cell]
theorem SC.S {k : Nat} {n : Nd} (h : SC G n0 b okb bv w u1 u2 v1 v2 x y bad) (hn : G.l[k]? = some n) : w.cell? ⟨b, 0, none⟩ = some u1 ∧ w.cell? ⟨b, 1, none⟩ = some u2 ∧ w.cell? ⟨G.a, 0, none⟩ = some (.slice (some ⟨G.g, 0, none⟩) G.l.length G.cap) ∧ w.cell? ⟨G.g, k * 6, none⟩ = some (.int .i64 n.kind) := by
  obtain ⟨_, _, _, _, _, n0, _⟩ := h.ei.nodes.node hn
  exact ⟨h.c0, h.c1, h.ei.c0, n0⟩
theorem EI.kp {K : Nat → Prop} (h : EI G w okb bv bad) (hk : Kp K w w') (h1 : ¬ K G.a ∧ ¬ K G.b1 ∧ ¬ K G.b2) (h4 : ∀ k, G.okl k → ¬ K k) (h5 : ∀ k, okb k → ¬ K k) : EI G w' okb bv bad :=
  ⟨hk.heap h.cell h1.1, Kd.N_kept h.nodes hk.kept h4, hk.heap h.sp h1.2.1, hk.heap h.sl h1.2.2, Kd.N_kept h.bad hk.kept h5, h.lens,
    fun k hk' => by obtain ⟨q1, q2, q3, q4, q5⟩ := h.off k hk'; exact ⟨q1, q2, q3, q4, Nat.lt_of_lt_of_le q5 hk.size⟩, fun k hk' => ⟨(h.offl k hk').1, Nat.lt_of_lt_of_le (h.offl k hk').2 hk.size⟩, h.ne⟩
theorem OS.kp {K : Nat → Prop} {v : Value} (h : OS n0 w v x) (hk : Kp K w w') (h1 : ∀ k, v.ownBlock = some k → ¬ K k) : OS n0 w' v x :=
  ⟨Kd.N_kept h.1 hk.kept (fun k q => h1 k q.symm), fun k q => ⟨(h.2 k q).1, Nat.lt_of_lt_of_le (h.2 k q).2 hk.size⟩⟩
theorem OB.kp {K : Nat → Prop} {v : Value} (h : OB n0 w v y) (hk : Kp K w w') (h1 : ∀ k, v.ownBlock = some k → ¬ K k) : OB n0 w' v y :=
  ⟨Kd.N_kept h.1 hk.kept (fun k q => h1 k q.symm), fun k q => ⟨(h.2 k q).1, Nat.lt_of_lt_of_le (h.2 k q).2 hk.size⟩⟩
/-- What is wrong is noted. -/
theorem SC.note (h : SC G n0 b okb bv w u1 u2 v1 v2 x y bad) (h' : EI G w' okb' bv' bad') (hk : Kp (EK G okb) w w') (hs : ∀ k, okb' k → okb k ∨ w.heap.size ≤ k) : SC G n0 b okb' bv' w' u1 u2 v1 v2 x y bad' := by
  have n1 : ∀ k, n0 ≤ k → ¬ okb k → ¬ EK G okb k := fun k hk1 hk2 q => q.elim (fun q => by have := h.lo.1; omega) hk2
  have n2 : ∀ k, ¬ okb k → k < w.heap.size → ¬ okb' k := fun k hk1 hk2 q => (hs k q).elim hk1 (fun q => by omega)
  exact ⟨h', h.os.kp hk (fun k q => n1 k (h.os.2 k q).1 (h.d1 k q).1), h.ob.kp hk (fun k q => n1 k (h.ob.2 k q).1 (h.d2 k q).1), hk.heap h.cell (n1 b h.le h.nb),
    fun k q => ⟨n2 k (h.d1 k q).1 (h.os.2 k q).2, (h.d1 k q).2⟩, fun k q => ⟨n2 k (h.d2 k q).1 (h.ob.2 k q).2, (h.d2 k q).2⟩, n2 b h.nb h.lt, h.le, h.lo⟩
/-- A name more. -/
theorem SC.grow1 {okn : Nat → Prop} {v' : Value} {x' : List ByteArray} (h : SC G n0 b okb bv w u1 u2 v1 v2 x y bad) (h0 : n0 ≤ w.heap.size) (hN : Kd.N Kd.string 9 w' 0 okn v' x') (hg : w.grownBy w' v1.ownBlock) (hat : v'.ownBlock = v1.ownBlock ∨ ∃ b, v'.ownBlock = some b ∧ w.heap.size ≤ b) : SC G n0 b okb bv w' u1 u2 v' v2 x' y bad := by
  have hk : Kp (fun k => v1.ownBlock = some k) w w' := Kp.grown hg (fun k q => q)
  have hv : ∀ k, v'.ownBlock = some k → v1.ownBlock = some k ∨ w.heap.size ≤ k := fun k q => by
    rcases hat with hat | ⟨b', hb, hle⟩
    · rw [hat] at q; exact .inl q
    · rw [hb] at q; injection q with q; exact .inr (by omega)
  refine ⟨h.ei.kp hk ⟨fun q => by have := (h.os.2 _ q).1; have := h.lo.1; omega, fun q => by have := (h.os.2 _ q).1; have := h.lo.2.1; omega, fun q => by have := (h.os.2 _ q).1; have := h.lo.2.2.1; omega⟩ (fun k q1 q => by have := (h.os.2 _ q).1; have := h.lo.2.2.2 k q1; omega) (fun k q1 q => (h.d1 k q).1 q1),
    h.os.grow h0 hN hat, h.ob.kp hk (fun k q q1 => (h.d1 k q1).2.2 q), hk.heap h.cell (fun q => (h.d1 _ q).2.1 rfl), fun k q => ?_, h.d2, h.nb, h.le, h.lo⟩
  rcases hv k q with q | q
  · exact h.d1 k q
  · exact ⟨fun q1 => by have := (h.ei.off k q1).2.2.2.2; omega, by have := h.lt; omega, fun q1 => by have := (h.ob.2 k q1).2; omega⟩
/-- A const more. -/
theorem SC.grow2 {okn : Nat → Prop} {v' : Value} {y' : List Bool} (h : SC G n0 b okb bv w u1 u2 v1 v2 x y bad) (h0 : n0 ≤ w.heap.size) (hN : Kd.N Kd.bool 4 w' 0 okn v' y') (hg : w.grownBy w' v2.ownBlock) (hat : v'.ownBlock = v2.ownBlock ∨ ∃ b, v'.ownBlock = some b ∧ w.heap.size ≤ b) : SC G n0 b okb bv w' u1 u2 v1 v' x y' bad := by
  have hk : Kp (fun k => v2.ownBlock = some k) w w' := Kp.grown hg (fun k q => q)
  have hv : ∀ k, v'.ownBlock = some k → v2.ownBlock = some k ∨ w.heap.size ≤ k := fun k q => by
    rcases hat with hat | ⟨b', hb, hle⟩
    · rw [hat] at q; exact .inl q
    · rw [hb] at q; injection q with q; exact .inr (by omega)
  refine ⟨h.ei.kp hk ⟨fun q => by have := (h.ob.2 _ q).1; have := h.lo.1; omega, fun q => by have := (h.ob.2 _ q).1; have := h.lo.2.1; omega, fun q => by have := (h.ob.2 _ q).1; have := h.lo.2.2.1; omega⟩ (fun k q1 q => by have := (h.ob.2 _ q).1; have := h.lo.2.2.2 k q1; omega) (fun k q1 q => (h.d2 k q).1 q1),
    h.os.kp hk (fun k q q1 => (h.d1 k q).2.2 q1), h.ob.grow h0 hN hat, hk.heap h.cell (fun q => (h.d2 _ q).2 rfl), fun k q => ⟨(h.d1 k q).1, (h.d1 k q).2.1, fun q1 => ?_⟩, fun k q => ?_, h.nb, h.le, h.lo⟩
  · rcases hv k q1 with q2 | q2
    · exact (h.d1 k q).2.2 q2
    · have := (h.os.2 k q).2; omega
  · rcases hv k q with q | q
    · exact h.d2 k q
    · exact ⟨fun q1 => by have := (h.ei.off k q1).2.2.2.2; omega, by have := h.lt; omega⟩
/-- Both are put. -/
theorem SC.put (h : SC G n0 b okb bv w u1 u2 v1 v2 x y bad) : SC G n0 b okb bv ((w.setCell ⟨b, 0, none⟩ v1).setCell ⟨b, 1, none⟩ v2) v1 v2 v1 v2 x y bad := by
  have hk : Kp (fun k => k = b) w ((w.setCell ⟨b, 0, none⟩ v1).setCell ⟨b, 1, none⟩ v2) := (Kp.set (K := fun k => k = b) (p := ⟨b, 0, none⟩) _ rfl).trans (Kp.set (K := fun k => k = b) (p := ⟨b, 1, none⟩) _ rfl) (fun _ q => .inl q)
  have hlo := h.lo
  have hle := h.le
  exact ⟨h.ei.kp hk ⟨fun q => by omega, fun q => by omega, fun q => by omega⟩ (fun k q1 q => by have := hlo.2.2.2 k q1; omega) (fun k q1 q => h.nb (q ▸ q1)), h.os.kp hk (fun k q => (h.d1 k q).2.1), h.ob.kp hk (fun k q => (h.d2 k q).2), blk_put (blk_put h.cell 0 _ rfl) 1 _ rfl, h.d1, h.d2, h.nb, h.le, h.lo⟩
theorem boolF (W : World) (q : Bool) : Kd.F Kd.bool (W.alloc (.cells #[.bool q] 4)) (fun k => k = W.heap.size) (some ⟨W.heap.size, 0, none⟩) 1 [q] := by
  have ho := World.ownsRow_lit (base := W.heap.size) (e := 4) (size := 1) W #[.bool q] 1 (Nat.le_refl _) (by decide) rfl
  have hR : Kd.R Kd.bool 4 (W.alloc (.cells #[.bool q] 4)) W.heap.size (fun j => j = W.heap.size) (.slice (some ⟨W.heap.size, 0, none⟩) 1 1) [q] := by
    refine ⟨fun j hj => by simpa [Value.ownBlock] using hj.symm, [.bool q], ho, rfl, fun j p hp => ?_⟩
    rcases j with _ | j
    · simp only [List.getElem?_cons_zero, Option.some.injEq] at hp
      subst hp
      rfl
    · simp at hp
  exact Kd.N_F (Kd.R_N hR)
section
variable {ops : Array Oper} {o : Oper} {act : Act} {Kc : Act → World → Prop} {Q : Exit → Act → World → Prop} {E : Prop}
theorem SC.step1 (hw : Region.wanted o (yielded ops act.tmps) = true) (s q : Operand) (ho : o.op = .call { callee := .builtin .append, args := #[s, q], argTypes := #[35, 35] })
    (h : SC G n0 b okb bv w u1 u2 v1 v2 x y bad) (h0 : n0 ≤ w.heap.size) (hm : x.length < 1048576) (hs : act.eval s = v1) {g : Nat} {t : ByteArray} (hx : act.eval q = .slice (some ⟨g, 0, none⟩) 1 1) (hF : Kd.F Kd.string w (fun k => k = g) (some ⟨g, 0, none⟩) 1 [t]) (hg : v1.ownBlock ≠ some g)
    (hq : ∀ v' w1, SC G n0 b okb bv w1 u1 u2 v' v2 (x ++ [t]) y bad → w.grownBy w1 v1.ownBlock → Kc (act.put o.dst v') w1) :
    if Region.wanted o (yielded ops act.tmps) = true then Oper.wp Try.prog o act w Kc Q else E := by
  have := Kd.N_append_rows_step (P := Try.prog) (Q := Q) Kd.string (w0 := w) 0 hw s q 35 9 (.string ⟨#[]⟩) 16 ho Try.underlying35 infoStr rfl (by decide) (by decide) v1 x [t] (some ⟨g, 0, none⟩) 1 1 (fun j => some j = v1.ownBlock ∨ j = g ∨ w.heap.size ≤ j) (fun k => k = g) hs hx
    (Kd.N_mono h.os.1 (fun _ hk => .inl hk)) hF (fun k hk => ⟨.inr (.inl hk), fun e => hg (by rw [← e, hk])⟩) (fun _ hk => .inr (.inr hk)) (Below.refl _ _) (Nat.zero_le _) (by omega) (fun v' w1 hN _ hg hat => hq v' w1 (h.grow1 h0 hN hg hat) hg)
  rw [if_pos hw] at this ⊢
  exact this
theorem SC.step2 (hw : Region.wanted o (yielded ops act.tmps) = true) (s q : Operand) (ho : o.op = .call { callee := .builtin .append, args := #[s, q], argTypes := #[28, 28] })
    (h : SC G n0 b okb bv w u1 u2 v1 v2 x y bad) (h0 : n0 ≤ w.heap.size) (hm : y.length < 1048576) (hs : act.eval s = v2) {g : Nat} {t : Bool} (hx : act.eval q = .slice (some ⟨g, 0, none⟩) 1 1) (hF : Kd.F Kd.bool w (fun k => k = g) (some ⟨g, 0, none⟩) 1 [t]) (hg : v2.ownBlock ≠ some g)
    (hq : ∀ v' w1, SC G n0 b okb bv w1 u1 u2 v1 v' x (y ++ [t]) bad → w.grownBy w1 v2.ownBlock → Kc (act.put o.dst v') w1) :
    if Region.wanted o (yielded ops act.tmps) = true then Oper.wp Try.prog o act w Kc Q else E := by
  have := Kd.N_append_rows_step (P := Try.prog) (Q := Q) Kd.bool (w0 := w) 0 hw s q 28 4 (.bool false) 1 ho Try.underlying28 infoBool rfl (by decide) (by decide) v2 y [t] (some ⟨g, 0, none⟩) 1 1 (fun j => some j = v2.ownBlock ∨ j = g ∨ w.heap.size ≤ j) (fun k => k = g) hs hx
    (Kd.N_mono h.ob.1 (fun _ hk => .inl hk)) hF (fun k hk => ⟨.inr (.inl hk), fun e => hg (by rw [← e, hk])⟩) (fun _ hk => .inr (.inr hk)) (Below.refl _ _) (Nat.zero_le _) (by omega) (fun v' w1 hN _ hg hat => hq v' w1 (h.grow2 h0 hN hg hat) hg)
  rw [if_pos hw] at this ⊢
  exact this
end
end
end Go.Proofs.Yticbjhicjegfoaa.Q
