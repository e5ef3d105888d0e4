/- Settle of one that waits. -/
import Derived.Test.YtdgpblhmfkpblaaSt15
import Derived.LoopTactic
import Derived.StillTailTactics
namespace Go.Proofs.Ytdgpblhmfkpblaa.Pg
open Go.RowKit

def jobOf (k : Bool) (v : VD) (l : List VD) (m : Nat) : JobD := ⟨if k = true then l.getD (3 * m) undefV else l.getD (3 * m + 1) undefV, v, (l.getD (3 * m + 2) undefV).n, k⟩
/-- The jobs of all that waited. -/
def jobsOf (k : Bool) (v : VD) (l : List VD) : List JobD := (List.range (l.length / 3)).map (jobOf k v l)
def settled (k : Bool) (c : CD) (v : VD) : CD := { c with a := if k = true then 1 else 2, vals := [v] }
section
variable {B B' : Bd} {w w' : World} {G G' : SG} {P P' : PS} {D D' : FD}
set_option maxHeartbeats 3200000 in
set_option maxRecDepth 100000 in
theorem settle_set (h : St1 B w D G P) {p : Int} (hp1 : 1 ≤ p) (hp2 : p ≤ 1000000) {c : CD} (q : Nat) (hq : (p - 1).toNat = q) (hc : P.cells[q]? = some c) (ha : c.a = 0) (hkeys : c.keys = []) (hv : c.vals.length ≤ 10000) (hj : P.jobs.length ≤ 10000) (k : Bool) (v : VD)
    (hA : k = true → v.kind ≠ 5 ∨ v.n = p) :
    Calls Try.prog 31 #[ptr G.at_, .int .i64 p, .bool k, v.agg] w fun e w' => e = .returned (.tuple #[]) ∧ Next1 B w D G w' { P with cells := P.cells.set q (settled k c v), jobs := P.jobs ++ jobsOf k v c.vals } := by
  have hb := (Below.refl w.heap.size w).alloc (Nat.le_refl _) (.cells #[.int .i64 v.kind, .int .i64 v.n, .string v.s] 33)
  have H0 := hid h
  have H := hid (h.below hb)
  have HB := hid hb
  have r0 := heap_alloc_new w (.cells #[.int .i64 v.kind, .int .i64 v.n, .string v.s] 33)
  have e1 : (c.a != 0) = false := by rw [ha]; rfl
  have HAN := hid hA
  clear hb ha h hA
  unfold VD.agg ptr
  cases k
  all_goals
    go_enter Try.func31, Try.ntmps31
    go_upto_region 1 with fail
    have hs0 : w.heap.size < (w.alloc (.cells #[.int .i64 v.kind, .int .i64 v.n, .string v.s] 33)).heap.size := by go_size
    generalize (w.alloc (.cells #[.int .i64 v.kind, .int .i64 v.n, .string v.s] 33)) = W at H HB hs0 r0 ⊢
    have c0 := H.out.ok.c (k := 0) (u := ptr G.hp) rfl
    unfold ptr at c0
    go_wp2_with fail
    refine (H.out.h.load H.out.le H.out.hp H.out.cells hp1 hp2 (by rw [hq]; exact hc)).mono ?_
    rintro e w1 ⟨A1, n1, p1, A2, n2, p2, rfl, hb1, hr1⟩
    have hs1 := hb1.size
    have hb2 := hb1.trans (((Below.refl w1.heap.size w1).alloc (Nat.le_refl _) (.cells #[.int .i64 c.kind, .int .i64 c.a, .int .i64 c.b, .slice A1 n1 p1, .slice A2 n2 p2] 47)).mono hb1.size)
    have rC := heap_alloc_new w1 (.cells #[.int .i64 c.kind, .int .i64 c.a, .int .i64 c.b, .slice A1 n1 p1, .slice A2 n2 p2] 47)
    have HB2 := hid hb2
    have r0' := (hb2.block _ hs0).trans r0
    have hs2 : w1.heap.size < (w1.alloc (.cells #[.int .i64 c.kind, .int .i64 c.a, .int .i64 c.b, .slice A1 n1 p1, .slice A2 n2 p2] 47)).heap.size := by go_size
    have hR := hr1.move (Fr.of_below ((Below.refl w1.heap.size w1).alloc (Nat.le_refl _) (.cells #[.int .i64 c.kind, .int .i64 c.a, .int .i64 c.b, .slice A1 n1 p1, .slice A2 n2 p2] 47)))
    have hn2 := hr1.v.get.1
    rw [List.length_map] at hn2
    go_upto_region 3 with fail
    generalize (w1.alloc (.cells #[.int .i64 c.kind, .int .i64 c.a, .int .i64 c.b, .slice A1 n1 p1, .slice A2 n2 p2] 47)) = W2 at HB2 rC r0' hs2 hR ⊢
    have H2 := hid (H.out.below HB2.out)
    have HR := hid hR
    have hb8 : w.heap.size < w1.heap.size := by omega
    generalize w1.heap.size = b8 at rC hs2 hb8 hs1 ⊢
    have HS1 := hid hs1
    have y0 := (cell_of_row _ _ 0 _ _ _ rC).trans (b := some (Value.int .i64 c.kind)) rfl
    have y1 := (cell_of_row _ _ 1 _ _ _ rC).trans (b := some (Value.int .i64 c.a)) rfl
    have y2 := (cell_of_row _ _ 2 _ _ _ rC).trans (b := some (Value.int .i64 c.b)) rfl
    have y3 := (cell_of_row _ _ 3 _ _ _ rC).trans (b := some (Value.slice A1 n1 p1)) rfl
    have y4 := (cell_of_row _ _ 4 _ _ _ rC).trans (b := some (Value.slice A2 n2 p2)) rfl
    have x0 := (cell_of_row _ _ 0 _ _ _ r0').trans (b := some (Value.int .i64 v.kind)) rfl
    have x1 := (cell_of_row _ _ 1 _ _ _ r0').trans (b := some (Value.int .i64 v.n)) rfl
    have x2 := (cell_of_row _ _ 2 _ _ _ r0').trans (b := some (Value.string v.s)) rfl
    clear hb1 hr1 hb2 r0 c0 hR hs1
    go_upto_region 6 with fail
  rotate_left
  · refine (another_no _ _ p v (HAN.out trivial)).mono ?_
    rintro e w3 ⟨rfl, hb3⟩
    have H3 := hid (H2.out.below hb3)
    have HB3 := hid (HB2.out.trans (hb3.mono HB2.out.size))
    have HR3 := hid (HR.out.move (Fr.of_below hb3))
    have s0 := (hb3.block _ (Nat.lt_trans hb8 hs2)).trans r0'
    have sC := (hb3.block _ hs2).trans rC
    have l8 : b8 < w3.heap.size := Nat.lt_of_lt_of_le hs2 hb3.size
    clear HB2 H2 HR r0' rC hs2 hb3 y0 y1 y2 y3 y4 x0 x1 x2
    have y0 := (cell_of_row _ _ 0 _ _ _ sC).trans (b := some (Value.int .i64 c.kind)) rfl
    have y1 := (cell_of_row _ _ 1 _ _ _ sC).trans (b := some (Value.int .i64 c.a)) rfl
    have y2 := (cell_of_row _ _ 2 _ _ _ sC).trans (b := some (Value.int .i64 c.b)) rfl
    have y3 := (cell_of_row _ _ 3 _ _ _ sC).trans (b := some (Value.slice A1 n1 p1)) rfl
    have y4 := (cell_of_row _ _ 4 _ _ _ sC).trans (b := some (Value.slice A2 n2 p2)) rfl
    have x0 := (cell_of_row _ _ 0 _ _ _ s0).trans (b := some (Value.int .i64 v.kind)) rfl
    have x1 := (cell_of_row _ _ 1 _ _ _ s0).trans (b := some (Value.int .i64 v.n)) rfl
    have x2 := (cell_of_row _ _ 2 _ _ _ s0).trans (b := some (Value.string v.s)) rfl
    have fz4 : w3.frozen? ⟨b8, 4, none⟩ = false := by simp [World.frozen?, sC]
    have fz1 : w3.frozen? ⟨b8, 1, none⟩ = false := by simp [World.frozen?, sC]
    have l0 : w.heap.size < w3.heap.size := Nat.lt_trans hb8 l8
    go_upto_region 11 with fail
    have hB8 : B ≤ b8 := Nat.le_trans (Nat.le_trans H0.out.le (Nat.le_of_lt hs0)) HS1.out
    have hbS : Below W.heap.size W (((w3.setCell ⟨b8, 4, none⟩ (.slice (some ⟨w3.heap.size, 0, none⟩) 1 1)).setCell ⟨b8, 1, none⟩ (.int .i64 2)).setCell ⟨b8, 1, none⟩ (.int .i64 1)) := ((HB3.out.setCell (by exact HS1.out) _).setCell (by exact HS1.out) _).setCell (by exact HS1.out) _
    have hzS : (((w3.setCell ⟨b8, 4, none⟩ (.slice (some ⟨w3.heap.size, 0, none⟩) 1 1)).setCell ⟨b8, 1, none⟩ (.int .i64 2)).setCell ⟨b8, 1, none⟩ (.int .i64 1)).heap.size = w3.heap.size := by simp
    have hb4 : Below W.heap.size W ((((w3.setCell ⟨b8, 4, none⟩ (.slice (some ⟨w3.heap.size, 0, none⟩) 1 1)).setCell ⟨b8, 1, none⟩ (.int .i64 2)).setCell ⟨b8, 1, none⟩ (.int .i64 1)).alloc (.cells #[.int .i64 v.kind, .int .i64 v.n, .string v.s] 33)) := hbS.alloc hbS.size _
    have hf4 : Fr B w3 ((((w3.setCell ⟨b8, 4, none⟩ (.slice (some ⟨w3.heap.size, 0, none⟩) 1 1)).setCell ⟨b8, 1, none⟩ (.int .i64 2)).setCell ⟨b8, 1, none⟩ (.int .i64 1)).alloc (.cells #[.int .i64 v.kind, .int .i64 v.n, .string v.s] 33)) := (((Fr.set (T := 47) _ (Typ.of sC) (by decide) (by decide) hB8).trans (Fr.set (T := 47) _ ((Typ.of sC).set _ _) (by decide) (by decide) hB8)).trans (Fr.set (T := 47) _ (((Typ.of sC).set _ _).set _ _) (by decide) (by decide) hB8)).trans (Fr.alloc _)
    have t8 : ((((w3.setCell ⟨b8, 4, none⟩ (.slice (some ⟨w3.heap.size, 0, none⟩) 1 1)).setCell ⟨b8, 1, none⟩ (.int .i64 2)).setCell ⟨b8, 1, none⟩ (.int .i64 1)).alloc (.cells #[.int .i64 v.kind, .int .i64 v.n, .string v.s] 33)).heap[b8]? = some (.cells #[.int .i64 c.kind, .int .i64 1, .int .i64 c.b, .slice A1 n1 p1, .slice (some ⟨w3.heap.size, 0, none⟩) 1 1] 47 (0, 0)) :=
      (heap_alloc_old _ _ (by rw [hzS]; exact l8)).trans ((set_at (set_at (set_at sC _) _) _).trans rfl)
    have t0 : ((((w3.setCell ⟨b8, 4, none⟩ (.slice (some ⟨w3.heap.size, 0, none⟩) 1 1)).setCell ⟨b8, 1, none⟩ (.int .i64 2)).setCell ⟨b8, 1, none⟩ (.int .i64 1)).alloc (.cells #[.int .i64 v.kind, .int .i64 v.n, .string v.s] 33)).heap[w.heap.size]? = some (.cells #[.int .i64 v.kind, .int .i64 v.n, .string v.s] 33 (0, 0)) := (heap_alloc_old _ _ (by rw [hzS]; exact l0)).trans ((set_ne _ (by omega)).trans ((set_ne _ (by omega)).trans ((set_ne _ (by omega)).trans s0)))
    have tN : ((((w3.setCell ⟨b8, 4, none⟩ (.slice (some ⟨w3.heap.size, 0, none⟩) 1 1)).setCell ⟨b8, 1, none⟩ (.int .i64 2)).setCell ⟨b8, 1, none⟩ (.int .i64 1)).alloc (.cells #[.int .i64 v.kind, .int .i64 v.n, .string v.s] 33)).heap[w3.heap.size]? = some (.cells #[.int .i64 v.kind, .int .i64 v.n, .string v.s] 33 (0, 0)) := by
      have := heap_alloc_new (((w3.setCell ⟨b8, 4, none⟩ (.slice (some ⟨w3.heap.size, 0, none⟩) 1 1)).setCell ⟨b8, 1, none⟩ (.int .i64 2)).setCell ⟨b8, 1, none⟩ (.int .i64 1)) (.cells #[.int .i64 v.kind, .int .i64 v.n, .string v.s] 33)
      rwa [hzS] at this
    have H4 := hid (H.out.below hb4)
    have HB4 := hid hb4
    have HR4 := hid (HR3.out.v.move hf4)
    have HK4 := hid (show RowR B ((((w3.setCell ⟨b8, 4, none⟩ (.slice (some ⟨w3.heap.size, 0, none⟩) 1 1)).setCell ⟨b8, 1, none⟩ (.int .i64 2)).setCell ⟨b8, 1, none⟩ (.int .i64 1)).alloc (.cells #[.int .i64 v.kind, .int .i64 v.n, .string v.s] 33)) 1 (.slice A1 n1 p1) ((settled true c v).keys.map keyRow) by
      have h1 := HR3.out.k
      rw [hkeys] at h1
      rw [show (settled true c v).keys = [] from hkeys]
      exact h1.void)
    have hNew : W.heap.size ≤ w3.heap.size := HB3.out.size
    generalize ((((w3.setCell ⟨b8, 4, none⟩ (.slice (some ⟨w3.heap.size, 0, none⟩) 1 1)).setCell ⟨b8, 1, none⟩ (.int .i64 2)).setCell ⟨b8, 1, none⟩ (.int .i64 1)).alloc (.cells #[.int .i64 v.kind, .int .i64 v.n, .string v.s] 33)) = W4 at H4 HB4 HR4 HK4 t8 t0 tN ⊢
    have HV4 := hid (RowR.of_own (B := B) (rows := [v.row]) (own_of_block (n := 1) (sz := 3) tN rfl (by decide)) (by decide) (fun k hk => Nat.lt_of_lt_of_le (H.out.h.fam.fresh k hk) hNew) (by simp [VD.row]) rfl)
    have T0 := hid t0
    clear HB3 HR3 s0 sC y0 y1 y2 y3 y4 x0 x1 x2 fz4 fz1 hbS hzS hb4 hf4 tN t0 l0 l8 H3
    have c0 := H4.out.ok.c (k := 0) (u := ptr G.hp) rfl
    unfold ptr at c0
    have y0 := (cell_of_row _ _ 0 _ _ _ t8).trans (b := some (Value.int .i64 c.kind)) rfl
    have y1 := (cell_of_row _ _ 1 _ _ _ t8).trans (b := some (Value.int .i64 1)) rfl
    have y2 := (cell_of_row _ _ 2 _ _ _ t8).trans (b := some (Value.int .i64 c.b)) rfl
    have y3 := (cell_of_row _ _ 3 _ _ _ t8).trans (b := some (Value.slice A1 n1 p1)) rfl
    have y4 := (cell_of_row _ _ 4 _ _ _ t8).trans (b := some (Value.slice (some ⟨w3.heap.size, 0, none⟩) 1 1)) rfl
    clear t8
    have hlt := (List.getElem?_eq_some_iff.1 hc).1
    go_still_tail 6, (by kernel_rfl)
    change wpList _ _ _ _ _ W4.drew
    go_wp2_with fail
    refine ((H4.out.below (Below.refl _ _).drew).h.store (c := settled true c v) H4.out.le (by simp) H4.out.hp H4.out.cells hp1 hp2 (by rw [hq]; exact hlt) ⟨HK4.out.move Fr.drew, HV4.out.move Fr.drew⟩ ⟨by simp [settled, hkeys], by simp [settled]⟩).mono ?_
    rintro e w7 ⟨rfl, D', hH, hG⟩
    rw [hq] at hH
    have HS := hid (Sta.goes (L := [some P.cells]) (i := 0) (H4.out.below (Below.refl _ _).drew) hH hG)
    have HG := hid hG
    clear hH hG
    have hS : St1 B w7 D' G { P with cells := P.cells.set q (settled true c v) } := HS.out
    have hM : SMv B W D G B w7 D' G := ((SMv.below D G HB4.out).trans (SMv.below D G (Below.refl _ _).drew)).trans (SMv.goes G HG.out)
    have s0 : w7.heap[w.heap.size]? = _ := (HG.out.keep w.heap.size (by have := HB4.out.size; simp; omega) (fun hf => by have := (H0.out.h.fam.foot_lt hf).1; omega)).trans T0.out
    have hR7 : RowR B w7 3 (.slice A2 n2 p2) (c.vals.map VD.row) := (HR4.out.move Fr.drew).move HG.out.fr
    have HS7 := hid hS
    have HM7 := hid hM
    have HR7 := hid hR7
    have T7 := hid s0
    clear y0 y1 y2 y3 y4 c0 HS HG HR4 HK4 HV4 H4 HB4 T0 hS hM hR7 s0
    go_upto_region 12 with fail
    go_wp2_with fail
    go_loopw [11] (fun i wx => ∃ k m : Nat, k = 3 * m ∧ k ≤ n2 ∧ i = .int .i64 k ∧ Box (∃ B1 D1 G1, St1 B1 wx D1 G1 { P with cells := P.cells.set q (settled true c v), jobs := P.jobs ++ (List.range m).map (jobOf true v c.vals) } ∧ SMv B W D G B1 wx D1 G1 ∧ RowR B1 wx 3 (.slice A2 n2 p2) (c.vals.map VD.row) ∧ wx.heap[w.heap.size]? = some (.cells #[.int .i64 v.kind, .int .i64 v.n, .string v.s] 33 (0, 0)))) (fun i _ => n2 - (RowKit.intOf i).toNat)
    case atStart => exact ⟨0, 0, rfl, by omega, rfl, hid ⟨_, _, _, by rw [List.range_zero, List.map_nil, List.append_nil]; exact HS7.out, HM7.out, HR7.out, T7.out⟩⟩
    case round =>
      obtain ⟨k, m, hk, hkn, rfl, HX⟩ := hrel
      have HK := hid hk
      clear hk
      obtain ⟨B1, D1, G1, hS1, hM1, hR1, hT1⟩ := HX.out
      clear HX HS7 HM7 HR7 T7
      rcases Nat.lt_or_ge n2 (k + 3) with hlt3 | hge3
      · have hf : ¬ ((k : Int) + 3 ≤ (n2 : Int)) := by omega
        have hm : c.vals.length / 3 = m := by have := HK.out; omega
        have HM := hid hm
        have HS1' := hid hS1
        have HM1 := hid hM1
        clear hm hS1 hM1 hR1 hT1
        go_wp2_with fail
        exact bodyPost_end (results_none rfl _ _ _) rfl ⟨rfl, B1, D1, G1, by unfold jobsOf; rw [HM.out]; exact HS1'.out, (SMv.below D G HB.out).trans HM1.out⟩
      · have hle3 : (k : Int) + 3 ≤ (n2 : Int) := by omega
        have hx : c.vals[k]? = some c.vals[k] := List.getElem?_eq_getElem (by omega)
        have hy : c.vals[k + 1]? = some c.vals[k + 1] := List.getElem?_eq_getElem (by omega)
        have hz : c.vals[k + 2]? = some c.vals[k + 2] := List.getElem?_eq_getElem (by omega)
        generalize c.vals[k] = x at hx
        generalize c.vals[k + 1] = y at hy
        generalize c.vals[k + 2] = z at hz
        have hJ : jobOf true v c.vals m = ⟨x, v, z.n, true⟩ := by
          simp only [jobOf, ← HK.out, List.getD_eq_getElem?_getD, hx, hy, hz, Option.getD_some, if_true]
        obtain ⟨bv, ov, rfl, _, hcx⟩ := hR1.get.2.2 k x.row (by rw [List.getElem?_map, hx]; rfl)
        obtain ⟨bv', ov', e', _, hcy⟩ := hR1.get.2.2 (k + 1) y.row (by rw [List.getElem?_map, hy]; rfl)
        obtain ⟨bv'', ov'', e'', _, hcz⟩ := hR1.get.2.2 (k + 2) z.row (by rw [List.getElem?_map, hz]; rfl)
        injection e' with e'; injection e' with ea eb; subst ea eb
        injection e'' with e''; injection e'' with ea eb; subst ea eb
        have x0 := hcx 0 _ rfl
        have x1 := hcx 1 _ rfl
        have x2 := hcx 2 _ rfl
        have y0 := hcy 0 _ rfl
        have y1 := hcy 1 _ rfl
        have y2 := hcy 2 _ rfl
        have z0 := hcz 0 _ rfl
        have z1 := hcz 1 _ rfl
        have z2 := hcz 2 _ rfl
        simp only [Nat.add_zero] at x0 y0 z0
        have v0 := (cell_of_row _ _ 0 _ _ _ hT1).trans (b := some (Value.int .i64 v.kind)) rfl
        have v1 := (cell_of_row _ _ 1 _ _ _ hT1).trans (b := some (Value.int .i64 v.n)) rfl
        have v2 := (cell_of_row _ _ 2 _ _ _ hT1).trans (b := some (Value.string v.s)) rfl
        have hw1 : IntKind.i64.wrap ((k : Int) + 1) = (k : Int) + 1 := IntWalk.i64_in _ (by omega)
        have hw2 : IntKind.i64.wrap ((k : Int) + 2) = (k : Int) + 2 := IntWalk.i64_in _ (by omega)
        have i0 : (k : Int) < (n2 : Int) := by omega
        have i1 : (k : Int) + 1 < (n2 : Int) := by omega
        have i2 : (k : Int) + 2 < (n2 : Int) := by omega
        have i3 : (0 : Int) ≤ (k : Int) + 1 := by omega
        have i4 : (0 : Int) ≤ (k : Int) + 2 := by omega
        have i5 : (0 : Int) ≤ (k : Int) := by omega
        have i6 : ((k : Int) + 2).toNat = k + 2 := by omega
        have HS1' := hid hS1
        have HM1 := hid hM1
        have HR1 := hid hR1
        have HT1 := hid hT1
        have HX := hid hx
        have HJ := hid hJ
        have hjl : (P.jobs ++ (List.range m).map (jobOf true v c.vals)).length ≤ 100000 := by
          have := HK.out
          rw [List.length_append, List.length_map, List.length_range]; omega
        have HJL := hid hjl
        have hat : G1.at_ = G.at_ := hM1.at_
        have HAT := hid hat
        clear hS1 hM1 hR1 hT1 hx hy hz hJ hjl hcx hcy hcz hat
        go_upto_region 15 with fail
        go_still_tail 18, (by kernel_rfl)
        change wpList _ _ _ _ _ wr.drew
        go_wp2_with fail
        have hjc := job_c (HS1'.out.below (Below.refl _ _).drew) true v x y z.n HJL.out
        rw [HAT.out] at hjc
        refine hjc.mono ?_
        rintro e wj ⟨rfl, hN⟩
        have HN := hid hN
        clear hN hjc
        obtain ⟨B2, D2, G2, hS2, hM2⟩ := HN.out
        have hM3 := (HM1.out.trans (SMv.below D1 G1 (Below.refl _ _).drew)).trans hM2
        have hR2 := hM2.row (HR1.out.move Fr.drew)
        have hbnd : w.heap.size < wr.heap.size := (Typ.of HT1.out).lt
        have hT2 := (hM2.keep _ hbnd (fun hf => (HM1.out.foot _ hf).elim (fun h => by have := (H0.out.h.fam.foot_lt h).1; omega) (fun h => by omega)) (fun hf => (HM1.out.sfoot _ hf).elim (fun h => by have := (H0.out.ok.foot_lt h).1; omega) (fun h => by omega))).trans HT1.out
        have hS3 : St1 B2 wj D2 G2 { P with cells := P.cells.set q (settled true c v), jobs := P.jobs ++ (List.range (m + 1)).map (jobOf true v c.vals) } := by
          rw [List.range_succ, List.map_append, List.map_cons, List.map_nil, HJ.out, ← List.append_assoc]
          exact hS2
        have HS3 := hid hS3
        have HM3 := hid hM3
        have HR2 := hid hR2
        have HT2 := hid hT2
        clear hS3 hM3 hR2 hT2 hS2 hM2 HN x0 x1 x2 y0 y1 y2 z0 z1 z2 v0 v1 v2 hw1 hw2
        go_wp2_with fail
        go_roundw
        case rel => exact ⟨k + 3, m + 1, by have := HK.out; omega, by omega, by go_num, hid ⟨B2, D2, G2, HS3.out, HM3.out, HR2.out, HT2.out⟩⟩
        case measure => simp [RowKit.intOf]; omega
  · have H3 := hid H2.out
    have HB3 := hid HB2.out
    have HR3 := hid HR.out
    have s0 := r0'
    have sC := rC
    have l8 := hs2
    clear HB2 H2 HR r0' rC hs2
    generalize W2 = w3 at *
    have fz4 : w3.frozen? ⟨b8, 4, none⟩ = false := by simp [World.frozen?, sC]
    have fz1 : w3.frozen? ⟨b8, 1, none⟩ = false := by simp [World.frozen?, sC]
    have l0 : w.heap.size < w3.heap.size := Nat.lt_trans hb8 l8
    go_upto_region 11 with fail
    have hB8 : B ≤ b8 := Nat.le_trans (Nat.le_trans H0.out.le (Nat.le_of_lt hs0)) HS1.out
    have hbS : Below W.heap.size W ((w3.setCell ⟨b8, 4, none⟩ (.slice (some ⟨w3.heap.size, 0, none⟩) 1 1)).setCell ⟨b8, 1, none⟩ (.int .i64 2)) := (HB3.out.setCell (by exact HS1.out) _).setCell (by exact HS1.out) _
    have hzS : ((w3.setCell ⟨b8, 4, none⟩ (.slice (some ⟨w3.heap.size, 0, none⟩) 1 1)).setCell ⟨b8, 1, none⟩ (.int .i64 2)).heap.size = w3.heap.size := by simp
    have hb4 : Below W.heap.size W (((w3.setCell ⟨b8, 4, none⟩ (.slice (some ⟨w3.heap.size, 0, none⟩) 1 1)).setCell ⟨b8, 1, none⟩ (.int .i64 2)).alloc (.cells #[.int .i64 v.kind, .int .i64 v.n, .string v.s] 33)) := hbS.alloc hbS.size _
    have hf4 : Fr B w3 (((w3.setCell ⟨b8, 4, none⟩ (.slice (some ⟨w3.heap.size, 0, none⟩) 1 1)).setCell ⟨b8, 1, none⟩ (.int .i64 2)).alloc (.cells #[.int .i64 v.kind, .int .i64 v.n, .string v.s] 33)) := ((Fr.set (T := 47) _ (Typ.of sC) (by decide) (by decide) hB8).trans (Fr.set (T := 47) _ ((Typ.of sC).set _ _) (by decide) (by decide) hB8)).trans (Fr.alloc _)
    have t8 : (((w3.setCell ⟨b8, 4, none⟩ (.slice (some ⟨w3.heap.size, 0, none⟩) 1 1)).setCell ⟨b8, 1, none⟩ (.int .i64 2)).alloc (.cells #[.int .i64 v.kind, .int .i64 v.n, .string v.s] 33)).heap[b8]? = some (.cells #[.int .i64 c.kind, .int .i64 2, .int .i64 c.b, .slice A1 n1 p1, .slice (some ⟨w3.heap.size, 0, none⟩) 1 1] 47 (0, 0)) :=
      (heap_alloc_old _ _ (by rw [hzS]; exact l8)).trans ((set_at (set_at sC _) _).trans rfl)
    have t0 : (((w3.setCell ⟨b8, 4, none⟩ (.slice (some ⟨w3.heap.size, 0, none⟩) 1 1)).setCell ⟨b8, 1, none⟩ (.int .i64 2)).alloc (.cells #[.int .i64 v.kind, .int .i64 v.n, .string v.s] 33)).heap[w.heap.size]? = some (.cells #[.int .i64 v.kind, .int .i64 v.n, .string v.s] 33 (0, 0)) := (heap_alloc_old _ _ (by rw [hzS]; exact l0)).trans ((set_ne _ (by omega)).trans ((set_ne _ (by omega)).trans s0))
    have tN : (((w3.setCell ⟨b8, 4, none⟩ (.slice (some ⟨w3.heap.size, 0, none⟩) 1 1)).setCell ⟨b8, 1, none⟩ (.int .i64 2)).alloc (.cells #[.int .i64 v.kind, .int .i64 v.n, .string v.s] 33)).heap[w3.heap.size]? = some (.cells #[.int .i64 v.kind, .int .i64 v.n, .string v.s] 33 (0, 0)) := by
      have := heap_alloc_new ((w3.setCell ⟨b8, 4, none⟩ (.slice (some ⟨w3.heap.size, 0, none⟩) 1 1)).setCell ⟨b8, 1, none⟩ (.int .i64 2)) (.cells #[.int .i64 v.kind, .int .i64 v.n, .string v.s] 33)
      rwa [hzS] at this
    have H4 := hid (H.out.below hb4)
    have HB4 := hid hb4
    have HR4 := hid (HR3.out.v.move hf4)
    have HK4 := hid (show RowR B (((w3.setCell ⟨b8, 4, none⟩ (.slice (some ⟨w3.heap.size, 0, none⟩) 1 1)).setCell ⟨b8, 1, none⟩ (.int .i64 2)).alloc (.cells #[.int .i64 v.kind, .int .i64 v.n, .string v.s] 33)) 1 (.slice A1 n1 p1) ((settled false c v).keys.map keyRow) by
      have h1 := HR3.out.k
      rw [hkeys] at h1
      rw [show (settled false c v).keys = [] from hkeys]
      exact h1.void)
    have hNew : W.heap.size ≤ w3.heap.size := HB3.out.size
    generalize (((w3.setCell ⟨b8, 4, none⟩ (.slice (some ⟨w3.heap.size, 0, none⟩) 1 1)).setCell ⟨b8, 1, none⟩ (.int .i64 2)).alloc (.cells #[.int .i64 v.kind, .int .i64 v.n, .string v.s] 33)) = W4 at H4 HB4 HR4 HK4 t8 t0 tN ⊢
    have HV4 := hid (RowR.of_own (B := B) (rows := [v.row]) (own_of_block (n := 1) (sz := 3) tN rfl (by decide)) (by decide) (fun k hk => Nat.lt_of_lt_of_le (H.out.h.fam.fresh k hk) hNew) (by simp [VD.row]) rfl)
    have T0 := hid t0
    clear HB3 HR3 s0 sC y0 y1 y2 y3 y4 x0 x1 x2 fz4 fz1 hbS hzS hb4 hf4 tN t0 l0 l8 H3
    have c0 := H4.out.ok.c (k := 0) (u := ptr G.hp) rfl
    unfold ptr at c0
    have y0 := (cell_of_row _ _ 0 _ _ _ t8).trans (b := some (Value.int .i64 c.kind)) rfl
    have y1 := (cell_of_row _ _ 1 _ _ _ t8).trans (b := some (Value.int .i64 2)) rfl
    have y2 := (cell_of_row _ _ 2 _ _ _ t8).trans (b := some (Value.int .i64 c.b)) rfl
    have y3 := (cell_of_row _ _ 3 _ _ _ t8).trans (b := some (Value.slice A1 n1 p1)) rfl
    have y4 := (cell_of_row _ _ 4 _ _ _ t8).trans (b := some (Value.slice (some ⟨w3.heap.size, 0, none⟩) 1 1)) rfl
    clear t8
    have hlt := (List.getElem?_eq_some_iff.1 hc).1
    go_still_tail 6, (by kernel_rfl)
    change wpList _ _ _ _ _ W4.drew
    go_wp2_with fail
    refine ((H4.out.below (Below.refl _ _).drew).h.store (c := settled false c v) H4.out.le (by simp) H4.out.hp H4.out.cells hp1 hp2 (by rw [hq]; exact hlt) ⟨HK4.out.move Fr.drew, HV4.out.move Fr.drew⟩ ⟨by simp [settled, hkeys], by simp [settled]⟩).mono ?_
    rintro e w7 ⟨rfl, D', hH, hG⟩
    rw [hq] at hH
    have HS := hid (Sta.goes (L := [some P.cells]) (i := 0) (H4.out.below (Below.refl _ _).drew) hH hG)
    have HG := hid hG
    clear hH hG
    have hS : St1 B w7 D' G { P with cells := P.cells.set q (settled false c v) } := HS.out
    have hM : SMv B W D G B w7 D' G := ((SMv.below D G HB4.out).trans (SMv.below D G (Below.refl _ _).drew)).trans (SMv.goes G HG.out)
    have s0 : w7.heap[w.heap.size]? = _ := (HG.out.keep w.heap.size (by have := HB4.out.size; simp; omega) (fun hf => by have := (H0.out.h.fam.foot_lt hf).1; omega)).trans T0.out
    have hR7 : RowR B w7 3 (.slice A2 n2 p2) (c.vals.map VD.row) := (HR4.out.move Fr.drew).move HG.out.fr
    have HS7 := hid hS
    have HM7 := hid hM
    have HR7 := hid hR7
    have T7 := hid s0
    clear y0 y1 y2 y3 y4 c0 HS HG HR4 HK4 HV4 H4 HB4 T0 hS hM hR7 s0
    go_upto_region 12 with fail
    go_wp2_with fail
    go_loopw [11] (fun i wx => ∃ k m : Nat, k = 3 * m ∧ k ≤ n2 ∧ i = .int .i64 k ∧ Box (∃ B1 D1 G1, St1 B1 wx D1 G1 { P with cells := P.cells.set q (settled false c v), jobs := P.jobs ++ (List.range m).map (jobOf false v c.vals) } ∧ SMv B W D G B1 wx D1 G1 ∧ RowR B1 wx 3 (.slice A2 n2 p2) (c.vals.map VD.row) ∧ wx.heap[w.heap.size]? = some (.cells #[.int .i64 v.kind, .int .i64 v.n, .string v.s] 33 (0, 0)))) (fun i _ => n2 - (RowKit.intOf i).toNat)
    case atStart => exact ⟨0, 0, rfl, by omega, rfl, hid ⟨_, _, _, by rw [List.range_zero, List.map_nil, List.append_nil]; exact HS7.out, HM7.out, HR7.out, T7.out⟩⟩
    case round =>
      obtain ⟨k, m, hk, hkn, rfl, HX⟩ := hrel
      have HK := hid hk
      clear hk
      obtain ⟨B1, D1, G1, hS1, hM1, hR1, hT1⟩ := HX.out
      clear HX HS7 HM7 HR7 T7
      rcases Nat.lt_or_ge n2 (k + 3) with hlt3 | hge3
      · have hf : ¬ ((k : Int) + 3 ≤ (n2 : Int)) := by omega
        have hm : c.vals.length / 3 = m := by have := HK.out; omega
        have HM := hid hm
        have HS1' := hid hS1
        have HM1 := hid hM1
        clear hm hS1 hM1 hR1 hT1
        go_wp2_with fail
        exact bodyPost_end (results_none rfl _ _ _) rfl ⟨rfl, B1, D1, G1, by unfold jobsOf; rw [HM.out]; exact HS1'.out, (SMv.below D G HB.out).trans HM1.out⟩
      · have hle3 : (k : Int) + 3 ≤ (n2 : Int) := by omega
        have hx : c.vals[k]? = some c.vals[k] := List.getElem?_eq_getElem (by omega)
        have hy : c.vals[k + 1]? = some c.vals[k + 1] := List.getElem?_eq_getElem (by omega)
        have hz : c.vals[k + 2]? = some c.vals[k + 2] := List.getElem?_eq_getElem (by omega)
        generalize c.vals[k] = x at hx
        generalize c.vals[k + 1] = y at hy
        generalize c.vals[k + 2] = z at hz
        have hJ : jobOf false v c.vals m = ⟨y, v, z.n, false⟩ := by
          simp only [jobOf, ← HK.out, List.getD_eq_getElem?_getD, hx, hy, hz, Option.getD_some, Bool.false_eq_true, if_false]
        obtain ⟨bv, ov, rfl, _, hcx⟩ := hR1.get.2.2 k x.row (by rw [List.getElem?_map, hx]; rfl)
        obtain ⟨bv', ov', e', _, hcy⟩ := hR1.get.2.2 (k + 1) y.row (by rw [List.getElem?_map, hy]; rfl)
        obtain ⟨bv'', ov'', e'', _, hcz⟩ := hR1.get.2.2 (k + 2) z.row (by rw [List.getElem?_map, hz]; rfl)
        injection e' with e'; injection e' with ea eb; subst ea eb
        injection e'' with e''; injection e'' with ea eb; subst ea eb
        have x0 := hcx 0 _ rfl
        have x1 := hcx 1 _ rfl
        have x2 := hcx 2 _ rfl
        have y0 := hcy 0 _ rfl
        have y1 := hcy 1 _ rfl
        have y2 := hcy 2 _ rfl
        have z0 := hcz 0 _ rfl
        have z1 := hcz 1 _ rfl
        have z2 := hcz 2 _ rfl
        simp only [Nat.add_zero] at x0 y0 z0
        have v0 := (cell_of_row _ _ 0 _ _ _ hT1).trans (b := some (Value.int .i64 v.kind)) rfl
        have v1 := (cell_of_row _ _ 1 _ _ _ hT1).trans (b := some (Value.int .i64 v.n)) rfl
        have v2 := (cell_of_row _ _ 2 _ _ _ hT1).trans (b := some (Value.string v.s)) rfl
        have hw1 : IntKind.i64.wrap ((k : Int) + 1) = (k : Int) + 1 := IntWalk.i64_in _ (by omega)
        have hw2 : IntKind.i64.wrap ((k : Int) + 2) = (k : Int) + 2 := IntWalk.i64_in _ (by omega)
        have i0 : (k : Int) < (n2 : Int) := by omega
        have i1 : (k : Int) + 1 < (n2 : Int) := by omega
        have i2 : (k : Int) + 2 < (n2 : Int) := by omega
        have i3 : (0 : Int) ≤ (k : Int) + 1 := by omega
        have i4 : (0 : Int) ≤ (k : Int) + 2 := by omega
        have i5 : (0 : Int) ≤ (k : Int) := by omega
        have i6 : ((k : Int) + 2).toNat = k + 2 := by omega
        have HS1' := hid hS1
        have HM1 := hid hM1
        have HR1 := hid hR1
        have HT1 := hid hT1
        have HX := hid hx
        have HJ := hid hJ
        have hjl : (P.jobs ++ (List.range m).map (jobOf false v c.vals)).length ≤ 100000 := by
          have := HK.out
          rw [List.length_append, List.length_map, List.length_range]; omega
        have HJL := hid hjl
        have hat : G1.at_ = G.at_ := hM1.at_
        have HAT := hid hat
        clear hS1 hM1 hR1 hT1 hx hy hz hJ hjl hcx hcy hcz hat
        go_upto_region 15 with fail
        go_still_tail 18, (by kernel_rfl)
        change wpList _ _ _ _ _ wr.drew
        go_wp2_with fail
        have hjc := job_c (HS1'.out.below (Below.refl _ _).drew) false v x y z.n HJL.out
        rw [HAT.out] at hjc
        refine hjc.mono ?_
        rintro e wj ⟨rfl, hN⟩
        have HN := hid hN
        clear hN hjc
        obtain ⟨B2, D2, G2, hS2, hM2⟩ := HN.out
        have hM3 := (HM1.out.trans (SMv.below D1 G1 (Below.refl _ _).drew)).trans hM2
        have hR2 := hM2.row (HR1.out.move Fr.drew)
        have hbnd : w.heap.size < wr.heap.size := (Typ.of HT1.out).lt
        have hT2 := (hM2.keep _ hbnd (fun hf => (HM1.out.foot _ hf).elim (fun h => by have := (H0.out.h.fam.foot_lt h).1; omega) (fun h => by omega)) (fun hf => (HM1.out.sfoot _ hf).elim (fun h => by have := (H0.out.ok.foot_lt h).1; omega) (fun h => by omega))).trans HT1.out
        have hS3 : St1 B2 wj D2 G2 { P with cells := P.cells.set q (settled false c v), jobs := P.jobs ++ (List.range (m + 1)).map (jobOf false v c.vals) } := by
          rw [List.range_succ, List.map_append, List.map_cons, List.map_nil, HJ.out, ← List.append_assoc]
          exact hS2
        have HS3 := hid hS3
        have HM3 := hid hM3
        have HR2 := hid hR2
        have HT2 := hid hT2
        clear hS3 hM3 hR2 hT2 hS2 hM2 HN x0 x1 x2 y0 y1 y2 z0 z1 z2 v0 v1 v2 hw1 hw2
        go_wp2_with fail
        go_roundw
        case rel => exact ⟨k + 3, m + 1, by have := HK.out; omega, by omega, by go_num, hid ⟨B2, D2, G2, HS3.out, HM3.out, HR2.out, HT2.out⟩⟩
        case measure => simp [RowKit.intOf]; omega
end
end Go.Proofs.Ytdgpblhmfkpblaa.Pg
