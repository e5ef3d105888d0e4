/- heap.Reach: the addresses that roots lead to, each once, ascending. -/
import Derived.Test.YtljbdmmidajmdaaPg57
import Derived.Test.YtljbdmmidajmdaaPg58
import Derived.Carry
import Derived.Deep.RegionHeld3
namespace Go.Proofs.Ytljbdmmidajmdaa.Pg
open Go.RowKit Go.Maps
attribute [local go_sem ↓] Go.wp_at_zero Go.wp_at_succ

/-- The law's variables that an adding leaves. -/
structure Ctx (B : Nat) (w : World) (lb tv ob : Nat) (A : Option Addr) (n cap : Nat) : Prop where
  lb : w.heap[lb]? = some (.cells #[.slice A n cap] 44 (0, 0))
  tv : w.heap[tv]? = some (.cells #[.pointer (some ⟨ob, 0, none⟩)] 86 (0, 0))
  base : B ≤ w.heap.size
section
variable {B : Nat} {w w' : World} {lb tv ob mb : Nat} {A : Option Addr} {n cap : Nat} {L : List Int} {v : VD} {x : Int}
theorem Ctx.add (h : Ctx B w lb tv ob A n cap) (hA : AddFr B w w') : Ctx B w' lb tv ob A n cap :=
  ⟨(hA.keep _ _ (Typ.of h.lb) (by decide) (by decide)).trans h.lb, (hA.keep _ _ (Typ.of h.tv) (by decide) (by decide)).trans h.tv, Nat.le_trans h.base hA.size⟩
theorem Ctx.below (h : Ctx B w lb tv ob A n cap) (hb : Below w.heap.size w w') : Ctx B w' lb tv ob A n cap := h.add (AddFr.of_below h.base hb)
theorem Ctx.l0 (h : Ctx B w lb tv ob A n cap) : w.cell? ⟨lb, 0, none⟩ = some (.slice A n cap) := cell_of_row _ _ 0 _ _ _ h.lb
theorem Ctx.t0 (h : Ctx B w lb tv ob A n cap) : w.cell? ⟨tv, 0, none⟩ = some (.pointer (some ⟨ob, 0, none⟩)) := cell_of_row _ _ 0 _ _ _ h.tv
end

theorem reach_start (w : World) (A : Option Addr) (n cap : Nat) : Todo w.heap.size ((((w.alloc (.cells #[.slice A n cap] 44)).alloc (.map #[] 0)).alloc (.cells #[.slice none 0 0, .map (some (w.heap.size + 1))] 89)).alloc (.cells #[.pointer (some ⟨w.heap.size + 2, 0, none⟩)] 86)) (w.heap.size + 2) (w.heap.size + 1) [] ∧
      Ctx w.heap.size ((((w.alloc (.cells #[.slice A n cap] 44)).alloc (.map #[] 0)).alloc (.cells #[.slice none 0 0, .map (some (w.heap.size + 1))] 89)).alloc (.cells #[.pointer (some ⟨w.heap.size + 2, 0, none⟩)] 86)) w.heap.size (w.heap.size + 3) (w.heap.size + 2) A n cap ∧
      Below w.heap.size w ((((w.alloc (.cells #[.slice A n cap] 44)).alloc (.map #[] 0)).alloc (.cells #[.slice none 0 0, .map (some (w.heap.size + 1))] 89)).alloc (.cells #[.pointer (some ⟨w.heap.size + 2, 0, none⟩)] 86)) := by
  generalize ha : w.alloc (.cells #[.slice A n cap] 44) = wa
  have sa : wa.heap.size = w.heap.size + 1 := by subst ha; simp
  generalize hb : wa.alloc (.map #[] 0) = wb
  have sb : wb.heap.size = w.heap.size + 2 := by subst hb; simp [sa]
  generalize hc : wb.alloc (.cells #[.slice none 0 0, .map (some (w.heap.size + 1))] 89) = wc
  have sc : wc.heap.size = w.heap.size + 3 := by subst hc; simp [sb]
  generalize hd : wc.alloc (.cells #[.pointer (some ⟨w.heap.size + 2, 0, none⟩)] 86) = wd
  have sd : wd.heap.size = w.heap.size + 4 := by subst hd; simp [sc]
  have k0 : wd.heap[w.heap.size]? = some (.cells #[.slice A n cap] 44 (0, 0)) := by
    rw [← hd, heap_alloc_old _ _ (by omega), ← hc, heap_alloc_old _ _ (by omega), ← hb, heap_alloc_old _ _ (by omega), ← ha]; exact heap_alloc_new _ _
  have k2 : wd.heap[w.heap.size + 2]? = some (.cells #[.slice none 0 0, .map (some (w.heap.size + 1))] 89 (0, 0)) := by
    rw [← hd, heap_alloc_old _ _ (by omega), ← hc, ← sb]; exact heap_alloc_new _ _
  have k3 : wd.heap[w.heap.size + 3]? = some (.cells #[.pointer (some ⟨w.heap.size + 2, 0, none⟩)] 86 (0, 0)) := by
    rw [← hd, ← sc]; exact heap_alloc_new _ _
  have hs : SetM wd (w.heap.size + 1) [] := by
    have h1 := SetM.made wa
    rw [hb, sa] at h1
    refine h1.same ?_
    rw [← hd, heap_alloc_old _ _ (by omega), ← hc, heap_alloc_old _ _ (by omega)]
  refine ⟨⟨⟨none, 0, 0, k2, World.ownsRow_nil _ _ _ _⟩, hs, by omega, by omega⟩, ⟨k0, k3, by omega⟩, ?_⟩
  rw [← hd, ← hc, ← hb, ← ha]
  exact ((((Below.refl _ _).alloc (Nat.le_refl _) _).alloc (by simp) _).alloc (by simp; omega) _).alloc (by simp; omega) _

theorem own_len {w : World} {base : Nat} {e : TypeId} {n m c : Nat} {A : Option Addr} {xs : List Value} (h : w.ownsRow base e 1 (.slice A n c) m xs) : n = m := by
  rcases h.2 with ⟨e1, e2⟩ | ⟨g, c', cur, e1, _⟩
  · injection e1 with _ e3 _
    have := h.1
    rw [e2] at this
    simp at this
    omega
  · injection e1 with _ e3 _
theorem own_at {w : World} {base : Nat} {e : TypeId} {n c k : Nat} {A : Option Addr} {xs : List Value} (h : w.ownsRow base e 1 (.slice A n c) n xs) (hk : k < n) : ∃ g, A = some ⟨g, 0, none⟩ ∧ ∀ j u, xs[j]? = some u → w.cell? ⟨g, j, none⟩ = some u := by
  have hl := h.1
  rcases h.2 with ⟨e1, e2⟩ | ⟨g, c', cur, e1, _⟩
  · rw [e2] at hl
    simp at hl
    omega
  · injection e1 with e1 _ _
    subst e1
    refine ⟨g, rfl, fun j u hj => ?_⟩
    have := h.cells (g := g) rfl j u hj
    rwa [show (⟨g, 0, none⟩ : Addr).add j = ⟨g, j, none⟩ by unfold Addr.add; split <;> simp_all] at this

set_option maxHeartbeats 6400000 in
set_option maxRecDepth 100000 in
theorem reach_c {w : World} {A : Option Addr} {n cap : Nat} {l : List CD} {V : Value} {roots : List VD} (hn : n ≤ 100000) (h : CRow w.heap.size w A n l) (hv : RowR w.heap.size w 3 V (roots.map VD.row)) :
    Calls Try.prog 28 #[.slice A n cap, V] w fun e w' => ∃ (v : Value) (L : List Int), e = .returned v ∧ (∀ x, x ∈ L ↔ Reached l roots x) ∧ L.Nodup ∧ w'.ownsRow w.heap.size 3 1 v L.length ((L.mergeSort leI).map encZ) ∧ Below w.heap.size w w' := by
  obtain ⟨A', rn, rc, rfl, hrl, hrc, hrm, hr0, hrr⟩ := hv
  rw [List.length_map] at hrl
  have hrn : rn ≤ 9223372036854775807 := by unfold maxLen at hrm; omega
  have hl := h.len
  have H := hid h
  have HRL := hid hrl
  have HRR := hid hrr
  have HLn := hid hl
  have hm0 := heap_alloc_new w (.cells #[.slice A n cap] 44)
  clear h hrl hrr hrm hr0 hl
  have hmk := fun w : World => run_makeMap (P := Try.prog) 87 w
  have hmk := fun w : World => run_makeMap (P := Try.prog) 87 w
  have hmk := fun w : World => run_makeMap (P := Try.prog) 87 w
  have hmk := fun w : World => run_makeMap (P := Try.prog) 87 w
  have hmk := fun w : World => run_makeMap (P := Try.prog) 87 w
  go_enter Try.func28, Try.ntmps28
  go_wp2_with fail
  clear hmk
  have H0 := hid (show Todo w.heap.size ((((w.alloc (.cells #[.slice A n cap] 44)).alloc (.map #[] 0)).alloc (.cells #[.slice none 0 0, .map (some (w.heap.size + 1))] 89)).alloc (.cells #[.pointer (some ⟨w.heap.size + 2, 0, none⟩)] 86)) (w.heap.size + 2) (w.heap.size + 1) [] ∧
      Ctx w.heap.size ((((w.alloc (.cells #[.slice A n cap] 44)).alloc (.map #[] 0)).alloc (.cells #[.slice none 0 0, .map (some (w.heap.size + 1))] 89)).alloc (.cells #[.pointer (some ⟨w.heap.size + 2, 0, none⟩)] 86)) w.heap.size (w.heap.size + 3) (w.heap.size + 2) A n cap ∧
      Below w.heap.size w ((((w.alloc (.cells #[.slice A n cap] 44)).alloc (.map #[] 0)).alloc (.cells #[.slice none 0 0, .map (some (w.heap.size + 1))] 89)).alloc (.cells #[.pointer (some ⟨w.heap.size + 2, 0, none⟩)] 86)) from reach_start w A n cap)
  generalize ((((w.alloc (.cells #[.slice A n cap] 44)).alloc (.map #[] 0)).alloc (.cells #[.slice none 0 0, .map (some (w.heap.size + 1))] 89)).alloc (.cells #[.pointer (some ⟨w.heap.size + 2, 0, none⟩)] 86)) = w3 at H0 ⊢
  go_loopw [19] (fun i wx => ∃ (k : Nat) (L : List Int), k ≤ rn ∧ i = .int .i64 k ∧ Box (L = addVs l.length [] (roots.take k)) ∧ Box (Todo w.heap.size wx (w.heap.size + 2) (w.heap.size + 1) L) ∧ Box (Ctx w.heap.size wx w.heap.size (w.heap.size + 3) (w.heap.size + 2) A n cap) ∧ Box (Below w.heap.size w wx)) (fun i _ => rn - (RowKit.intOf i).toNat)
  case atStart => exact ⟨0, [], by omega, rfl, hid rfl, hid H0.out.1, hid H0.out.2.1, hid H0.out.2.2⟩
  case round =>
    clear H0
    obtain ⟨k, L, hk, rfl, HL, HT, HC, HB⟩ := hrel
    rcases Nat.lt_or_ge k rn with hlt | hge
    · have hlt' : (k : Int) < rn := by omega
      have hk0 : (0 : Int) ≤ k := by omega
      have hx : roots[k]? = some (roots[k]'(by rw [HRL.out]; exact hlt)) := List.getElem?_eq_getElem _
      generalize roots[k]'(by rw [HRL.out]; exact hlt) = v at hx
      obtain ⟨b, o, rfl, _, hcell⟩ := HRR.out (by omega)
      have hc := (hcell k v.row (by rw [List.getElem?_map, hx]; rfl)).2
      have c0 := keepc HB.out (hc 0 _ rfl)
      have c1 := keepc HB.out (hc 1 _ rfl)
      have c2 := keepc HB.out (hc 2 _ rfl)
      rw [Nat.add_zero] at c0
      rw [← Nat.add_assoc] at c1 c2
      have HX := hid hx
      have hLl : L.length ≤ n := by
        rw [HL.out, ← HLn.out]
        exact length_le_of (nodup_addVs List.nodup_nil) (fun x hx => by
          rcases mem_addVs.1 hx with h | ⟨_, h1, h2⟩
          · simp at h
          · exact ⟨h1, h2⟩)
      clear hx hc hcell
      go_wp2_with fail
      cases hv : leadD v with
      | none =>
        have HV := hid hv
        clear hv
        refine (leads_none HV.out _).mono ?_
        rintro e w5 ⟨rfl, hb5⟩
        have HB5 := hid (((Below.refl wr.heap.size wr).alloc (Nat.le_refl _) (.cells #[.int .i64 v.kind, .int .i64 v.n, .string v.s] 60)).trans (hb5.mono (by simp)))
        clear hb5
        go_wp2_with fail
        refine (cadd_nil _ _ _).mono ?_
        rintro e w6 ⟨rfl, rfl⟩
        go_wp2_with fail
        go_roundw
        case rel =>
          refine ⟨k + 1, L, by omega, by go_num, hid ?_, hid (HT.out.below HB5.out), hid (HC.out.below HB5.out), hid (HB.out.trans (HB5.out.mono HC.out.base))⟩
          rw [addVs_take HX.out, ← HL.out]
          unfold addV
          rw [HV.out]
        case measure => simp [RowKit.intOf]; omega
      | some x =>
        have HV := hid hv
        clear hv
        refine (leads_some HV.out _).mono ?_
        rintro e w5 ⟨k5, rfl, hk5, hb5⟩
        have HB5 := hid (((Below.refl wr.heap.size wr).alloc (Nat.le_refl _) (.cells #[.int .i64 v.kind, .int .i64 v.n, .string v.s] 60)).trans (hb5.mono (by simp)))
        have HK5 := hid hk5
        clear hb5 hk5
        go_wp2_with fail
        refine (cadd_c (x := x) (HT.out.below HB5.out) (HC.out.below HB5.out).base (HC.out.below HB5.out).l0 (HC.out.below HB5.out).t0 (by omega) HK5.out (by omega)).mono ?_
        rintro e w6 ⟨rfl, hT6, hA6⟩
        have HT6 := hid hT6
        have HC6 := hid ((HC.out.below HB5.out).add hA6)
        have HB6 := hid ((HB.out.trans (HB5.out.mono HC.out.base)).trans hA6.low)
        clear hT6 hA6
        go_wp2_with fail
        go_roundw
        case rel =>
          refine ⟨k + 1, addIn n L x, by omega, by go_num, hid ?_, HT6, HC6, HB6⟩
          rw [addVs_take HX.out, ← HL.out]
          unfold addV
          rw [HV.out, HLn.out]
        case measure => simp [RowKit.intOf]; omega
    · obtain rfl : k = rn := by omega
      have HF := hid (show Found l roots L 0 by rw [HL.out, List.take_of_length_le (by rw [HRL.out]; exact Nat.le_refl _)]; exact Found.start)
      clear HL HRR
      go_wp2_with fail
      go_loopw [9] (fun i wx => ∃ (k : Nat) (L : List Int), k ≤ L.length ∧ i = .int .i64 k ∧ Box (Found l roots L k) ∧ Box (Todo w.heap.size wx (w.heap.size + 2) (w.heap.size + 1) L) ∧ Box (Ctx w.heap.size wx w.heap.size (w.heap.size + 3) (w.heap.size + 2) A n cap) ∧ Box (Below w.heap.size w wx)) (fun i _ => n - (RowKit.intOf i).toNat)
      case atStart => exact ⟨0, L, by omega, rfl, HF, HT, HC, HB⟩
      case round =>
        clear HF HT HC HB
        obtain ⟨k, L, hk, rfl, HF, HT, HC, HB⟩ := hrel
        have hLl : L.length ≤ n := by rw [← HLn.out]; exact HF.out.length
        obtain ⟨A1, n1, p1, o1, o2⟩ := HT.out.ex
        have t0 := HC.out.t0
        have t1 := cell_of_row _ _ 0 _ _ _ o1
        simp only [List.getElem?_toArray, List.getElem?_cons_zero] at t1
        have hn1 : n1 = L.length := own_len o2
        subst hn1
        have O2 := hid o2
        clear o1 o2
        rcases Nat.lt_or_ge k L.length with hlt | hge
        · have hlt' : (k : Int) < L.length := by omega
          have hk0 : (0 : Int) ≤ k := by omega
          have hy : L[k]? = some L[k] := List.getElem?_eq_getElem hlt
          generalize L[k] = y at hy
          have hyb := HF.out.bounds y (List.mem_of_getElem? hy)
          rw [HLn.out] at hyb
          obtain ⟨g1, rfl, r1⟩ := own_at O2.out hlt
          have r2 := r1 k (.int .i64 y) (by rw [List.getElem?_map, hy]; rfl)
          obtain ⟨m, rfl⟩ : ∃ m : Nat, y = m + 1 := ⟨(y - 1).toNat, by omega⟩
          have hmn : m < n := by omega
          have hci : l[m]? = some (l[m]'(by rw [HLn.out]; omega)) := List.getElem?_eq_getElem _
          generalize l[m]'(by rw [HLn.out]; omega) = c at hci
          obtain ⟨b, o, rfl, hcell⟩ := H.out.at_ _ c hci
          obtain ⟨A3, n3, p3, A4, n4, p4, b0, b1, b2, b3, b4, br⟩ := hcell
          have b0 := keepc HB.out b0
          have b1 := keepc HB.out b1
          have b2 := keepc HB.out b2
          have b3 := keepc HB.out b3
          have b4 := keepc HB.out b4
          have l0 := HC.out.l0
          obtain ⟨A5, n5, c5, e5, hrl5, hrc5, hrm5, hr05, hrr5⟩ := br.v
          obtain ⟨rfl, rfl, rfl⟩ : A4 = A5 ∧ n4 = n5 ∧ p4 = c5 := by injection e5 with e1 e2 e3; exact ⟨e1, e2, e3⟩
          rw [List.length_map] at hrl5
          have hn4 : n4 ≤ 9223372036854775807 := by unfold maxLen at hrm5; omega
          have HRL5 := hid hrl5
          have HRR5 := hid hrr5
          clear e5 hrl5 hrc5 hrm5 hr05 hrr5
          have HY := hid hy
          have HCi := hid hci
          have hm0 : (0 : Int) ≤ m := by omega
          have hm1 : (m : Int) < n := by omega
          have hyw : IntKind.i64.wrap ((m : Int) + 1 - 1) = m := by rw [show (m : Int) + 1 - 1 = m by omega]; exact IntWalk.i64_in _ (by omega)
          have hyw' : IntKind.i64.wrap (m : Int) = m := IntWalk.i64_in _ (by omega)
          clear br hy hci r1
          go_upto_region 11 with fail
          have ne0 := World.new_ne wr _ t0
          have ne1 := World.new_ne wr _ t1
          have ne2 := World.new_ne wr _ r2
          have ne3 := World.new_ne wr _ l0
          have ne4 := World.new_ne wr _ b0
          go_region_held3 (fun w' => w'.cell? ⟨w.heap.size + 3, 0, none⟩ = some (.pointer (some ⟨w.heap.size + 2, 0, none⟩)) ∧ w'.cell? ⟨w.heap.size + 2, 0, none⟩ = some (.slice (some ⟨g1, 0, none⟩) L.length p1) ∧ w'.cell? ⟨g1, k, none⟩ = some (.int .i64 ((m : Int) + 1)) ∧ w'.cell? ⟨w.heap.size, 0, none⟩ = some (.slice (some ⟨b, o, none⟩) n cap) ∧ w'.cell? ⟨b, o + m * 5, none⟩ = some (.int .i64 c.kind) ∧ w'.cell? ⟨b, o + m * 5 + 1, none⟩ = some (.int .i64 c.a) ∧ w'.cell? ⟨b, o + m * 5 + 2, none⟩ = some (.int .i64 c.b) ∧ w'.cell? ⟨b, o + m * 5 + 3, none⟩ = some (.slice A3 n3 p3) ∧ w'.cell? ⟨b, o + m * 5 + 4, none⟩ = some (.slice A4 n4 p4)) (go_keep) (fail)
          all_goals
            have hbox := heap_alloc_new wr (.cells #[.int .i64 c.kind, .int .i64 c.a, .int .i64 c.b, .slice A3 n3 p3, .slice A4 n4 p4] 31)
            have HBw := hid (show Below wr.heap.size wr (wr.alloc (.cells #[.int .i64 c.kind, .int .i64 c.a, .int .i64 c.b, .slice A3 n3 p3, .slice A4 n4 p4] 31)).drew from ((Below.refl _ _).alloc (Nat.le_refl _) _).drew)
            have HBx := hid (show (wr.alloc (.cells #[.int .i64 c.kind, .int .i64 c.a, .int .i64 c.b, .slice A3 n3 p3, .slice A4 n4 p4] 31)).drew.heap[wr.heap.size]? = _ from hbox)
            clear ne0 ne1 ne2 ne3 ne4 b0 b1 b2 b3 b4 t0 t1 r2 l0 hbox
            try clear hHeld
            go_wp2_with fail
            refine (beyond_c c _ _ _).mono ?_
            rintro e w5 ⟨rfl, hb5⟩
            have HB5 := hid ((HBw.out.trans (hb5.mono (by simp))).trans (((Below.refl w5.heap.size w5).alloc (Nat.le_refl _) (.cells #[.int .i64 (beyondD c)] 3)).mono (by have := hb5.size; simp at this; omega)))
            have HBx5 := hid ((hb5.block wr.heap.size (by simp)).trans HBx.out)
            clear hb5
            go_wp2_with fail
            refine (cadd_c (x := beyondD c) (HT.out.below HB5.out) (HC.out.below HB5.out).base (HC.out.below HB5.out).l0 (HC.out.below HB5.out).t0 (by omega) (k := w5.heap.size) (cell_of_row _ _ 0 _ _ _ (heap_alloc_new _ _)) (by omega)).mono ?_
            rintro e w6 ⟨rfl, hT6, hA6⟩
            have hbx6 := (hA6.keep wr.heap.size 31 (Typ.of ((heap_alloc_old w5 _ (Array.getElem?_eq_some_iff.1 HBx5.out).1).trans HBx5.out)) (by decide) (by decide)).trans ((heap_alloc_old w5 _ (Array.getElem?_eq_some_iff.1 HBx5.out).1).trans HBx5.out)
            have b4 := cell_of_row w6 wr.heap.size 4 _ _ _ hbx6
            simp only [List.getElem?_toArray, List.getElem?_cons_zero, List.getElem?_cons_succ] at b4
            have HT6 := hid hT6
            have HC6 := hid ((HC.out.below HB5.out).add hA6)
            have HB6 := hid ((HB.out.trans (HB5.out.mono HC.out.base)).trans hA6.low)
            clear hT6 hA6 hbx6 HT HC
            go_wp2_with fail
            clear b4
            have HFn := hid (HF.out.next HY.out (c := c) (by rw [show ((m : Int) + 1 - 1).toNat = m by omega]; exact HCi.out))
            go_loopw [56] (fun i wx => ∃ (j : Nat) (M : List Int), j ≤ n4 ∧ i = .int .i64 j ∧ Box (M = addVs l.length (addIn l.length L (beyondD c)) (c.vals.take j)) ∧ M.length ≤ n ∧ Box (Todo w.heap.size wx (w.heap.size + 2) (w.heap.size + 1) M) ∧ Box (Ctx w.heap.size wx w.heap.size (w.heap.size + 3) (w.heap.size + 2) (some ⟨b, o, none⟩) n cap) ∧ Box (Below w.heap.size w wx)) (fun i _ => n4 - (RowKit.intOf i).toNat)
            case atStart => exact ⟨0, addIn n L (beyondD c), by omega, rfl, hid (by rw [HLn.out]; rfl), by rw [← HLn.out]; exact length_le_of (nodup_addIn HF.out.nd) (fun x hx => by rcases mem_addIn.1 hx with h | ⟨rfl, h1, h2⟩; exact HF.out.bounds x h; exact ⟨h1, h2⟩), HT6, HC6, HB6⟩
            case round =>
              clear HT6 HC6 HB6
              obtain ⟨j, M, hj, rfl, HM, hMl, HT, HC, HB⟩ := hrel
              rcases Nat.lt_or_ge j n4 with hlt | hge
              · have hlt' : (j : Int) < n4 := by omega
                have hj0 : (0 : Int) ≤ j := by omega
                have hx : c.vals[j]? = some (c.vals[j]'(by rw [HRL5.out]; exact hlt)) := List.getElem?_eq_getElem _
                generalize c.vals[j]'(by rw [HRL5.out]; exact hlt) = v at hx
                obtain ⟨b5, o5, rfl, _, hcell⟩ := HRR5.out (by omega)
                have hc := (hcell j v.row (by rw [List.getElem?_map, hx]; rfl)).2
                have c0 := keepc HB.out (hc 0 _ rfl)
                have c1 := keepc HB.out (hc 1 _ rfl)
                have c2 := keepc HB.out (hc 2 _ rfl)
                rw [Nat.add_zero] at c0
                rw [← Nat.add_assoc] at c1 c2
                have HX := hid hx
                clear hx hc hcell
                go_wp2_with fail
                cases hv : leadD v with
                | none =>
                  have HV := hid hv
                  clear hv
                  refine (leads_none HV.out _).mono ?_
                  rintro e w5 ⟨rfl, hb5⟩
                  have HB5 := hid (((Below.refl wr.heap.size wr).alloc (Nat.le_refl _) (.cells #[.int .i64 v.kind, .int .i64 v.n, .string v.s] 60)).trans (hb5.mono (by simp)))
                  clear hb5
                  go_wp2_with fail
                  refine (cadd_nil _ _ _).mono ?_
                  rintro e w6 ⟨rfl, rfl⟩
                  go_wp2_with fail
                  go_roundw
                  case rel =>
                    refine ⟨j + 1, M, by omega, by go_num, hid ?_, hMl, hid (HT.out.below HB5.out), hid (HC.out.below HB5.out), hid (HB.out.trans (HB5.out.mono HC.out.base))⟩
                    rw [addVs_take HX.out, ← HM.out]
                    unfold addV
                    rw [HV.out]
                  case measure => simp [RowKit.intOf]; omega
                | some x =>
                  have HV := hid hv
                  clear hv
                  refine (leads_some HV.out _).mono ?_
                  rintro e w5 ⟨k5, rfl, hk5, hb5⟩
                  have HB5 := hid (((Below.refl wr.heap.size wr).alloc (Nat.le_refl _) (.cells #[.int .i64 v.kind, .int .i64 v.n, .string v.s] 60)).trans (hb5.mono (by simp)))
                  have HK5 := hid hk5
                  clear hb5 hk5
                  go_wp2_with fail
                  refine (cadd_c (x := x) (HT.out.below HB5.out) (HC.out.below HB5.out).base (HC.out.below HB5.out).l0 (HC.out.below HB5.out).t0 (by omega) HK5.out (by omega)).mono ?_
                  rintro e w6 ⟨rfl, hT6, hA6⟩
                  have HT6 := hid hT6
                  have HC6 := hid ((HC.out.below HB5.out).add hA6)
                  have HB6 := hid ((HB.out.trans (HB5.out.mono HC.out.base)).trans hA6.low)
                  clear hT6 hA6
                  go_wp2_with fail
                  go_roundw
                  case rel =>
                    refine ⟨j + 1, addIn n M x, by omega, by go_num, hid ?_, ?_, HT6, HC6, HB6⟩
                    · rw [addVs_take HX.out, ← HM.out]
                      unfold addV
                      rw [HV.out, HLn.out]
                    · have hE : addIn l.length M x = addVs l.length (addIn l.length L (beyondD c)) (c.vals.take (j + 1)) := by rw [addVs_take HX.out, ← HM.out]; unfold addV; rw [HV.out]
                      rw [← HLn.out, hE]
                      exact length_le_of (nodup_addVs (nodup_addIn HF.out.nd)) (fun z hz => by rcases mem_addVs.1 hz with h | ⟨_, h1, h2⟩; rcases mem_addIn.1 h with h | ⟨rfl, h1, h2⟩; exact HF.out.bounds z h; exact ⟨h1, h2⟩; exact ⟨h1, h2⟩)
                  case measure => simp [RowKit.intOf]; omega
              · obtain rfl : j = n4 := by omega
                have hfull : M = addVs l.length (addIn l.length L (beyondD c)) c.vals := by rw [HM.out, List.take_of_length_le (by rw [HRL5.out]; exact Nat.le_refl _)]
                have HFn2 := hid (show Found l roots M (k + 1) by rw [hfull]; exact HFn.out)
                have hgr := hid (show k + 1 ≤ M.length by
                  have h1 := HFn2.out.grown HF.out (by rw [hfull]; exact fun x hx => mem_addVs.2 (.inl (mem_addIn.2 (.inl hx))))
                  omega)
                clear hfull
                go_wp2_with fail
                go_roundw
                case rel => exact ⟨k + 1, M, hgr.out, by go_num, HFn2, HT, HC, HB⟩
                case measure => simp [RowKit.intOf]; omega
        · obtain rfl : k = L.length := by omega
          have HD := hid (HF.out.all)
          have ht2 := cell_of_row _ _ 1 _ _ _ HT.out.ex.choose_spec.choose_spec.choose_spec.1
          simp only [List.getElem?_toArray, List.getElem?_cons_zero, List.getElem?_cons_succ] at ht2
          go_wp2_with fail
          refine (keys_c _ _).mono ?_
          rintro e w5 ⟨rfl, rfl⟩
          clear t0 t1 ht2
          go_wp2_with fail
          refine (sorted_c HT.out.set HF.out.nd (by omega)).mono ?_
          rintro e w6 ⟨v6, rfl, hrow, hb6⟩
          have HRow := hid hrow
          have HB6 := hid (HB.out.trans (hb6.mono HC.out.base))
          have HBase := hid HC.out.base
          clear hrow hb6
          go_wp2_with fail
          go_ret
          exact ⟨v6, L, rfl, HD.out, HF.out.nd, own_lower HRow.out HBase.out, HB6.out⟩
end Go.Proofs.Ytljbdmmidajmdaa.Pg
