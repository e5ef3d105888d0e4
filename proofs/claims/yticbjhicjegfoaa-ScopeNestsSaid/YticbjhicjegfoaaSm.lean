/- Spots and Slots; awake. -/
import Derived.Test.YticbjhicjegfoaaSk
import Derived.Test.YticbjhicjegfoaaSa
import Derived.Test.YticbjhicjegfoaaQy
namespace Go.Proofs.Yticbjhicjegfoaa.Q
open Go.RowKit
open Go.Proofs.YticbjhicjegfoaaW.PrintWords

theorem field_l (A : Option Addr) (n c : Nat) (a : Int) (b : Bool) (w : World) : (Instr.field 31 (.agg #[.slice A n c, .int .i64 a, .bool b]) 0).run Try.prog w = .ok (.slice A n c) w := by
  simp [Instr.field, go_sem, asAgg]
theorem lookF_lens {l : List Nd} {m k : Nat} {S S' : Lk} (h : lookF l m k S = some S') : S'.spots.length = S.spots.length ∧ S'.slots.length = S.slots.length := (lookF_open h).2
theorem looked_lens {l : List Nd} {m : Nat} {S : Lk} (h : looked m l = some S) : S.spots.length = l.length ∧ S.slots.length = l.length := by
  unfold looked at h
  dsimp only at h
  split at h
  · injection h with h; rw [← h]; simp
  · have := lookF_lens h; simpa using this
section
variable {w : World} {okl : Nat → Prop} {g cap : Nat} {l : List Nd} {m : Nat} {S : Lk}
set_option maxHeartbeats 800000 in
set_option maxRecDepth 100000 in
theorem spots_c (h : NR w okl g cap l) (hlo : ∀ k, okl k → k < w.heap.size) (hl : l.length ≤ 1048576) (hl0 : 0 < l.length) (hr : looked m l = some S) :
    Calls Try.prog 17 #[.slice (some ⟨g, 0, none⟩) l.length cap] w fun e w' => ∃ b, e = .returned (.slice (some ⟨b, 0, none⟩) l.length l.length) ∧ w'.heap[b]? = some (.cells (spCells S.spots).toArray 40 (0, 0)) ∧ Below w.heap.size w w' ∧ w.heap.size ≤ b := by
  have hc := looked_c h hlo hl hl0 hr
  have HC := hid hc
  clear h hlo hr hc
  go_enter Try.func17, Try.ntmps17
  go_wp2_with fail
  refine HC.out.mono ?_
  rintro e w1 ⟨a, b1, b2, opv, oko, rfl, hI, hb, h1, h2⟩
  have c1 := hI.c1
  dsimp only at c1
  have HI := hid hI
  have HB := hid hb
  clear hI hb
  go_wp2_with fail
  go_ret
  exact ⟨b1, rfl, HI.out.sp, HB.out, h1⟩
set_option maxHeartbeats 800000 in
set_option maxRecDepth 100000 in
theorem slots_c (h : NR w okl g cap l) (hlo : ∀ k, okl k → k < w.heap.size) (hl : l.length ≤ 1048576) (hl0 : 0 < l.length) (hr : looked m l = some S) :
    Calls Try.prog 18 #[.slice (some ⟨g, 0, none⟩) l.length cap] w fun e w' => ∃ b, e = .returned (.slice (some ⟨b, 0, none⟩) l.length l.length) ∧ w'.heap[b]? = some (.cells (slCells S.slots).toArray 3 (0, 0)) ∧ Below w.heap.size w w' ∧ w.heap.size ≤ b := by
  have hc := looked_c h hlo hl hl0 hr
  have HC := hid hc
  clear h hlo hr hc
  go_enter Try.func18, Try.ntmps18
  go_wp2_with fail
  refine HC.out.mono ?_
  rintro e w1 ⟨a, b1, b2, opv, oko, rfl, hI, hb, h1, h2⟩
  have c2 := hI.c2
  dsimp only at c2
  have HI := hid hI
  have HB := hid hb
  clear hI hb
  go_wp2_with fail
  go_ret
  exact ⟨b2, rfl, HI.out.sl, HB.out, h2⟩
/-- What is parsed, and is a program. -/
theorem parse_ok {src : ByteArray} {T : Tree} (hr : parse src = some T) (h0 : 0 < T.l.length) (w : World) : Calls Try.prog 16 #[.string src] w fun e w' =>
    ∃ okl g cap, e = .returned (.agg #[.slice (some ⟨g, 0, none⟩) T.l.length cap, .int .i64 T.at_, .bool T.ok]) ∧ NR w' okl g cap T.l ∧ (∀ k, okl k → w.heap.size ≤ k ∧ k < w'.heap.size) ∧ Below w.heap.size w w' := by
  refine (parse_c hr w).mono ?_
  rintro e w1 ⟨ok, v, rfl, hN, hn, hb⟩
  obtain ⟨g, cap, rfl, _⟩ := Kd.N_form hN h0
  exact ⟨ok, g, cap, rfl, hN, hn, hb⟩
set_option maxHeartbeats 1600000 in
set_option maxRecDepth 100000 in
theorem awake_c (w : World) : Calls Try.prog 13 #[] w fun e w' => e = .returned (.bool true) ∧ Below w.heap.size w w' := by
  obtain ⟨T, S, p1, p2, p3, p4, p5, p6⟩ := chk_get awake0
  obtain ⟨T', S', q1, q2, q3, q4, q5, q6⟩ := chk_get awake1
  simp only [Bool.and_eq_true, Nat.beq_eq] at p6 q6
  have hsl : S.slots = [0] := by
    have := p6.2
    split at this
    · rename_i x hx
      rw [hx, of_decide_eq_true this]
    · cases this
  obtain ⟨sp, hsp⟩ : ∃ sp, S'.spots[2]? = some sp ∧ sp.depth = 0 ∧ sp.slot = 0 := by
    have := q6.2
    split at this
    · rename_i p hp
      unfold Sp.is at this
      simp only [Bool.and_eq_true, decide_eq_true_eq] at this
      exact ⟨p, hp, this⟩
    · cases this
  have ha1 := parse_ok p1 p4 w
  have ha2 := fun w => parse_ok (w := w) q1 q4
  have hs1 := fun (w : World) (okl : Nat → Prop) (g cap : Nat) (h : NR w okl g cap T.l) (hlo : ∀ k, okl k → k < w.heap.size) => slots_c h hlo p5 p4 p2
  have hs2 := fun (w : World) (okl : Nat → Prop) (g cap : Nat) (h : NR w okl g cap T'.l) (hlo : ∀ k, okl k → k < w.heap.size) => spots_c h hlo q5 q4 q2
  rw [p6.1] at ha1 hs1
  rw [q6.1] at ha2 hs2
  have HA1 := hid ha1
  have HA2 := hid ha2
  have HS1 := hid hs1
  have HS2 := hid hs2
  have HSL := hid hsl
  have HSP := hid hsp
  have hln1 := p6.1
  have hln2 := q6.1
  have HN1 := hid hln1
  have HN2 := hid hln2
  clear p1 p2 p3 p4 p5 p6 q1 q2 q3 q4 q5 q6 ha1 ha2 hs1 hs2 hsl hsp hln1 hln2
  have hfl := fun A n c a b w => field_l A n c a b w
  go_enter Try.func13, Try.ntmps13
  go_wp2_with fail
  refine HA1.out.mono ?_
  rintro e w1 ⟨okl, g, cap, rfl, hN, hn, hb⟩
  have HN := hid hN
  have HNN := hid hn
  have HB := hid hb
  clear hN hn hb
  go_wp2_with fail
  refine (HS1.out w1 okl g cap HN.out (fun k hk => (HNN.out k hk).2)).mono ?_
  rintro e w2 ⟨b, rfl, hc, hb, hle⟩
  rw [HSL.out] at hc
  have HC := hid hc
  have HB2 := hid (HB.out.trans (hb.mono HB.out.size))
  clear hc hb HN HNN HB HA1 HS1
  go_wp2_with fail
  refine (HA2.out w2).mono ?_
  rintro e w3 ⟨okl', g', cap', rfl, hN, hn, hb⟩
  have HN := hid hN
  have HNN := hid hn
  have HB := hid (HB2.out.trans (hb.mono HB2.out.size))
  have HC3 := hid ((hb.block b (Array.getElem?_eq_some_iff.1 HC.out).1).trans HC.out)
  clear hN hn hb HC HB2 HA2
  go_wp2_with fail
  refine (HS2.out w3 okl' g' cap' HN.out (fun k hk => (HNN.out k hk).2)).mono ?_
  rintro e w4 ⟨b', rfl, hc, hb, hle'⟩
  have c1 := (cell_of_row _ _ 0 _ _ _ ((hb.block b (Array.getElem?_eq_some_iff.1 HC3.out).1).trans HC3.out)).trans (b := some (Value.int .i64 0)) rfl
  have hat := spCells_at HSP.out.1
  have c2 := (cell_of_row _ _ 4 _ _ _ hc).trans (c := some (Value.int .i64 0)) (by simpa [HSP.out.2.1] using hat.1)
  have c3 := (cell_of_row _ _ 5 _ _ _ hc).trans (c := some (Value.int .i64 0)) (by simpa [HSP.out.2.2] using hat.2)
  have HB4 := hid (HB.out.trans (hb.mono HB.out.size))
  clear hc hb HN HNN HB hat
  go_wp2_with fail
  go_ret
  exact ⟨rfl, HB4.out⟩
end
end Go.Proofs.Yticbjhicjegfoaa.Q
