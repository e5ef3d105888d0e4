/- PromiseOrder, walked. -/
import Derived.Test.YtdgpblhmfkpblaaSt18
namespace Go.Proofs.Ytdgpblhmfkpblaa.Pg
open Go.RowKit

theorem infoInt : (Try.prog.info? 3).map (fun i => (i.zero, i.size, i.bytes)) = some (some (.int .i64 0), 1, 8) := by kernel_rfl
def maxV : VD := ⟨6, 0, ⟨#[109, 97, 120]⟩⟩
def minV : VD := ⟨6, 0, ⟨#[109, 105, 110]⟩⟩
/-- What stands with a promise of which k are then. -/
def ow : Nat → List VD
  | 0 => []
  | k + 1 => ow k ++ [maxV, minV, numV ((k : Int) + 3)]
theorem ow_length (k : Nat) : (ow k).length = 3 * k := by
  induction k with
  | zero => rfl
  | succ k ih => simp only [ow, List.length_append, ih, List.length_cons, List.length_nil]; omega
theorem ow_get (k j : Nat) (h : j < k) : (ow k)[3 * j]? = some maxV ∧ (ow k)[3 * j + 1]? = some minV ∧ (ow k)[3 * j + 2]? = some (numV ((j : Int) + 3)) := by
  induction k with
  | zero => omega
  | succ k ih =>
    rcases Nat.lt_or_ge j k with hj | hj
    · obtain ⟨h0, h1, h2⟩ := ih hj
      simp only [ow]
      exact ⟨by rw [List.getElem?_append_left (by rw [ow_length]; omega)]; exact h0, by rw [List.getElem?_append_left (by rw [ow_length]; omega)]; exact h1, by rw [List.getElem?_append_left (by rw [ow_length]; omega)]; exact h2⟩
    · obtain rfl : j = k := by omega
      simp only [ow]
      refine ⟨?_, ?_, ?_⟩ <;> rw [List.getElem?_append_right (by rw [ow_length]; omega), ow_length]
      · rw [show 3 * j - 3 * j = 0 by omega]; rfl
      · rw [show 3 * j + 1 - 3 * j = 1 by omega]; rfl
      · rw [show 3 * j + 2 - 3 * j = 2 by omega]; rfl
def oc (k : Nat) : CD := ⟨5, 0, 0, [], ow k⟩
/-- The state ahead of Settle. -/
def po (k : Nat) : PS := { p0 with cells := scopeC 0 [holeV] :: oc k :: List.replicate k promC }
def oj (kept : Bool) (m : Nat) : JobD := ⟨if kept = true then maxV else minV, numV 9, (m : Int) + 3, kept⟩
def os (kept : Bool) (k : Nat) : CD := settled kept (oc k) (numV 9)
/-- The state behind it, with j then more. -/
def pq (kept : Bool) (k j : Nat) : PS := { p0 with cells := scopeC 0 [holeV] :: os kept k :: List.replicate (k + j) promC, jobs := (List.range (k + j)).map (oj kept) }
theorem po_jobs (kept : Bool) (k : Nat) : jobsOf kept (numV 9) (oc k).vals = (List.range k).map (oj kept) := by
  unfold jobsOf
  rw [show (oc k).vals = ow k from rfl, ow_length, Nat.mul_div_cancel_left k (by decide)]
  refine List.map_congr_left (fun m hm => ?_)
  obtain ⟨h0, h1, h2⟩ := ow_get k m (List.mem_range.1 hm)
  simp only [jobOf, List.getD_eq_getElem?_getD, h0, h1, h2, Option.getD_some, oj, numV]
def ints (k : Nat) : List (List Value) := (List.range k).map (fun (m : Nat) => [.int .i64 ((m : Int) + 3)])
theorem ints_succ (k : Nat) : ints (k + 1) = ints k ++ [[.int .i64 ((k : Int) + 3)]] := by unfold ints; rw [List.range_succ, List.map_append]; rfl
theorem ints_length (k : Nat) : (ints k).length = k := by simp [ints]
section
variable {B : Bd} {w : World} {G : SG} {P : PS} {D : FD}
theorem thenN_of (h : St1 B w D G P) (hn : P.cells.length < 4096) {n : Int} (he : (P.cells.length : Nat) + (1 : Int) = n) (p : Int) (f g : VD) {Q : PS → Prop}
    (hW : ∀ B1 w1 D1 G1, St1 B1 w1 D1 G1 { P with cells := P.cells ++ [promC] } → Calls Try.prog 35 #[ptr G1.at_, .int .i64 p, f.agg, g.agg, .int .i64 n] w1 fun e w' => e = .returned (.tuple #[]) ∧ ∃ P', Q P' ∧ Next1 B1 w1 D1 G1 w' P') :
    Calls Try.prog 36 #[ptr G.at_, .int .i64 p, f.agg, g.agg] w fun e w' => e = .returned (.tuple #[.int .i64 n, .int .i64 0]) ∧ ∃ P', Q P' ∧ Next1 B w D G w' P' := by
  subst he
  exact then_of h hn p f g hW
/-- Then, ahead of Settle. -/
theorem then_po (k : Nat) (hk : k ≤ 100) (h : St1 B w D G (po k)) : Calls Try.prog 36 #[ptr G.at_, .int .i64 2, maxV.agg, minV.agg] w fun e w' => e = .returned (.tuple #[.int .i64 ((k : Int) + 3), .int .i64 0]) ∧ Next1 B w D G w' (po (k + 1)) := by
  refine (thenN_of h (by simp [po]; omega) (n := (k : Int) + 3) (by simp [po]; omega) 2 maxV minV (Q := fun P' => P' = po (k + 1)) (fun B1 w1 D1 G1 h1 => ?_)).mono ?_
  · refine (wait_waits h1 (p := 2) (by decide) (by decide) (c := oc k) rfl rfl (by simp only [oc, ow_length]; omega) rfl maxV minV ((k : Int) + 3)).mono ?_
    rintro e w' ⟨rfl, hN⟩
    refine ⟨rfl, _, rfl, ?_⟩
    have e1 : po (k + 1) = { po k with cells := (po k).cells ++ [promC] |>.set 1 (waitC (oc k) maxV minV ((k : Int) + 3)) } := by
      simp only [po, List.cons_append, List.set_cons_succ, List.set_cons_zero, List.replicate_succ']
      rfl
    rw [e1]
    exact hN
  · rintro e w' ⟨rfl, P', rfl, hN⟩
    exact ⟨rfl, hN⟩
/-- Then, behind it. -/
theorem then_pq (kept : Bool) (k j : Nat) (hk : k + j ≤ 100) (h : St1 B w D G (pq kept k j)) : Calls Try.prog 36 #[ptr G.at_, .int .i64 2, maxV.agg, minV.agg] w fun e w' => e = .returned (.tuple #[.int .i64 (((k + j : Nat) : Int) + 3), .int .i64 0]) ∧ Next1 B w D G w' (pq kept k (j + 1)) := by
  refine (thenN_of h (by simp [pq]; omega) (n := ((k + j : Nat) : Int) + 3) (by simp [pq]; omega) 2 maxV minV (Q := fun P' => P' = pq kept k (j + 1)) (fun B1 w1 D1 G1 h1 => ?_)).mono ?_
  · refine (wait_kept h1 (p := 2) (by decide) (by decide) (c := os kept k) rfl (by cases kept <;> simp [os, settled]) (v := numV 9) (r := []) rfl (by simp [pq]; omega) maxV minV (((k + j : Nat) : Int) + 3)).mono ?_
    rintro e w' ⟨rfl, hN⟩
    refine ⟨rfl, _, rfl, ?_⟩
    have e1 : pq kept k (j + 1) = { pq kept k j with cells := (pq kept k j).cells ++ [promC], jobs := (pq kept k j).jobs ++ [⟨if ((os kept k).a == 1) = true then maxV else minV, numV 9, ((k + j : Nat) : Int) + 3, (os kept k).a == 1⟩] } := by
      have hb : ((os kept k).a == 1) = kept := by cases kept <;> rfl
      rw [hb]
      simp only [pq, List.cons_append, ← Nat.add_assoc, List.replicate_succ', List.range_succ, List.map_append, List.map_cons, List.map_nil]
      rfl
    rw [e1]
    exact hN
  · rintro e w' ⟨rfl, P', rfl, hN⟩
    exact ⟨rfl, hN⟩
end
section
variable {B : Bd} {w w' : World} {G : SG} {P : PS} {D : FD}
/-- The types of what a state, or its heap, owns. -/
def ownT (T : TypeId) : Bool := T == 174 || T == 166 || T == 171 || T == 47 || T == 167 || T == 55 || T == 50 || T == 33 || T == 69 || T == 9 || T == 140
theorem Fam.foot_own (h : Fam B w D) {k : Nat} (hk : Foot D k) : ∃ T, Typ w k T ∧ ownT T = true := by
  rcases hk with rfl | ⟨P, hP⟩ | ⟨K, hK⟩ | ⟨p, P, hP, hk⟩ | ⟨b, K, hK, hk⟩
  · exact ⟨_, h.tFam, by decide⟩
  · exact ⟨_, h.tPg hP, by decide⟩
  · exact ⟨_, h.tBk hK, by decide⟩
  · exact ⟨_, h.tPgRow hP hk, by decide⟩
  · exact ⟨_, h.tBkRow hK hk, by decide⟩
theorem StOk.foot_own (h : StOk B w G P) {k : Nat} (hk : SFoot G k) : ∃ T, Typ w k T ∧ ownT T = true := by
  obtain ⟨_, T, hT, h1⟩ := h.foot_typ hk
  refine ⟨T, hT, ?_⟩
  simp only [ownT, Bool.or_eq_true] at h1 ⊢
  rcases h1 with (((h1 | h1) | h1) | h1) | h1 <;> simp [h1]
/-- What a row of the law's own grows by turns no state. -/
theorem St1.grown (h : St1 B w D G P) {T sz n base : Nat} {v : Value} {xs : List Value} (ho : w.ownsRow base T sz v n xs) (hT : ownT T = false) (hi : immT T = false) (hB : B ≤ base) (hg : w.grownBy w' v.ownBlock) : St1 B w' D G P := by
  have hf : Fr B w w' := ⟨hg.os, hg.tape, hg.output, hg.size, fun k hk => hg.block k hk.1 (fun e => by
    have h1 := own_typ ho e.symm
    rcases hk.2 with h' | ⟨cs, fr, T', h', hT', _⟩
    · omega
    · rw [← h1.1.uniq (Typ.of h'), hi] at hT'; cases hT')⟩
  have hk : ∀ k, (∃ T', Typ w k T' ∧ ownT T' = true) → w'.heap[k]? = w.heap[k]? := fun k ⟨T', h1, h2⟩ => hg.block k h1.lt (fun e => by
    rw [← (own_typ ho e.symm).1.uniq h1, hT] at h2; cases h2)
  exact ⟨h.h.raise (Ext.refl _ _) hf (fun k _ hF => hk k (hF.elim h.h.fam.foot_own (fun h' => ⟨_, h.h.typ h', by decide⟩))) (fun k hX => Nat.lt_of_lt_of_le (h.h.fam.fresh k hX) hg.size), h.hp, h.cells, h.ok.keep (Ext.refl _ _) hf (fun k hS => hk k (h.ok.foot_own hS))⟩
end
/-- A row of the law's own stays. -/
theorem SMv.rowOut {B B' : Bd} {w w' : World} {G G' : SG} {P : PS} {D D' : FD} (hM : SMv B w D G B' w' D' G') (h : St1 B w D G P) {base T sz : Nat} {v : Value} {rows : List (List Value)} (ho : ROut w base T sz v rows) (_hB : base ≤ B.n) (hT : ownT T = false) : ROut w' base T sz v rows :=
  ho.stay (fun k hk => hM.keep k (own_typ ho hk).1.lt (fun hf => by obtain ⟨T', h1, h2⟩ := h.h.fam.foot_own hf; rw [← (own_typ ho hk).1.uniq h1, hT] at h2; cases h2) (fun hf => by obtain ⟨T', h1, h2⟩ := h.ok.foot_own hf; rw [← (own_typ ho hk).1.uniq h1, hT] at h2; cases h2))
set_option maxHeartbeats 3200000 in
set_option maxRecDepth 100000 in
theorem order_c (w : World) (n l : Int) (hn0 : 0 ≤ n) (hn1 : n ≤ 255) (hl0 : 0 ≤ l) (hl1 : l ≤ 255) (kept again : Bool) : Calls Try.prog 11 #[.int .u8 n, .bool kept, .bool again, .int .u8 l] w fun e w' => e = .returned (.bool true) ∧ Below w.heap.size w w' := by
  have y0 : n.tmod 12 = n % 12 := Int.tmod_eq_emod_of_nonneg hn0
  have y1 : l.tmod 4 = l % 4 := Int.tmod_eq_emod_of_nonneg hl0
  obtain ⟨K, hK⟩ : ∃ K : Nat, n % 12 = (K : Int) := ⟨(n % 12).toNat, by omega⟩
  obtain ⟨J, hJ⟩ : ∃ J : Nat, l % 4 = (J : Int) := ⟨(l % 4).toNat, by omega⟩
  have hK2 : K ≤ 12 := by omega
  have hJ2 : J ≤ 4 := by omega
  obtain ⟨i0, hi, hz0, hz1, hz2⟩ := info_parts infoInt
  have HI := hid hi
  clear hi
  go_enter Try.func11, Try.ntmps11
  go_wp2_with fail
  refine (l17state_c w).mono ?_
  rintro e w1 ⟨a, rfl, B1, D1, G1, hS1, rfl, hn1', hb1⟩
  have HS1 := hid hS1
  have HB1 := hid hb1
  have HN1 := hid hn1'
  clear hS1 hb1 hn1'
  go_wp2_with fail
  refine (makeN_c HS1.out (by decide) (n := 2) rfl).mono ?_
  rintro e w2 ⟨rfl, B2, D2, G2, hS2, hM2⟩
  have ha2 := hM2.at_
  have HB2 := hid (HB1.out.trans (hM2.low HS1.out (Nat.le_of_eq HN1.out.symm)))
  have HN2 := hid (hM2.ext.hn.trans HN1.out)
  have HS2 := hid (show St1 B2 w2 D2 G2 (po 0) from hS2)
  clear hS2 hM2 HS1 HB1 HN1
  rw [← ha2]
  clear ha2
  generalize hat : G2.at_ = a2
  go_wp2_with (go_at_call 14; refine (err_c 0 _).mono ?_; rintro e w3 ⟨rfl, rfl⟩)
  go_loopw [13, 14] (fun v i wx => ∃ k : Nat, k ≤ K ∧ i = .int .i64 k ∧ Box (∃ B D G, St1 B wx D G (po k) ∧ G.at_ = a2 ∧ B.n = w.heap.size ∧ Below w.heap.size w wx ∧ ROut wx w.heap.size 3 1 v (ints (k)))) (fun _ i _ => K - (RowKit.intOf i).toNat)
  case atStart => exact ⟨0, by omega, rfl, hid ⟨B2, D2, G2, HS2.out, hat, HN2.out, HB2.out, ROut.nil _ _ _ _⟩⟩
  case round =>
    clear HS2 HB2 HN2 hat 
    obtain ⟨k, hk, rfl, HX⟩ := hrel
    obtain ⟨B, D, G, hS, hat, hN, hB, hO⟩ := HX.out
    have HS := hid hS
    have HN := hid hN
    have HB := hid hB
    have HO := hid hO
    clear HX hS hN hB hO
    subst hat
    rcases Nat.lt_or_ge k K with hlt | hge
    · have hlt' : (k : Int) < K := by omega
      have hle3 : ¬ ((k : Int) + 3 ≤ 2) := by omega
      go_wp2_with (first
        | (go_at_call_of 34 (Value.string ⟨#[109, 97, 120]⟩); refine (rownL_c _ ⟨#[109, 97, 120]⟩ 0).mono ?_; rintro e w5 ⟨rfl, hb⟩; have HS5 := hid (HS.out.below hb); have HB5 := hid (HB.out.trans (hb.mono HB.out.size)); have HO5 := hid (HO.out.below hb); clear hb)
        | (go_at_call_of 34 (Value.string ⟨#[109, 105, 110]⟩); refine (rownL_c _ ⟨#[109, 105, 110]⟩ 0).mono ?_; rintro e w6 ⟨rfl, hb⟩; have HS6 := hid (HS5.out.below hb); have HB6 := hid (HB5.out.trans (hb.mono HB5.out.size)); have HO6 := hid (HO5.out.below hb); clear hb))
      refine (then_po k (by omega) HS6.out).mono ?_
      rintro e w7 ⟨rfl, B7, D7, G7, hS7, hM7⟩
      have ha7 := hM7.at_
      have HB7 := hid (HB6.out.trans (hM7.low HS6.out (Nat.le_of_eq HN.out.symm)))
      have HN7 := hid (hM7.ext.hn.trans HN.out)
      have HO7 := hid (hM7.rowOut HS6.out HO6.out (Nat.le_of_eq HN.out.symm) (by decide))
      have hb8 := (Below.refl w7.heap.size w7).alloc (Nat.le_refl _) (.cells #[.int .i64 ((k : Int) + 3)] 3)
      have HS8 := hid (hS7.below hb8)
      have HB8 := hid (HB7.out.trans (hb8.mono HB7.out.size))
      have HO8 := hid (show (w7.alloc (.cells #[.int .i64 ((k : Int) + 3)] 3)).ownsRow w.heap.size 3 1 u13 (k) (ints (k)).flatten by have := HO7.out.below hb8; unfold ROut at this; rwa [ints_length] at this)
      clear hS7 hM7 hb8 HS6 HB6 HO6 HS5 HB5 HO5 HS HB HO HN
      go_wp2_with (first | (go_at_call 14; refine (err_c 0 _).mono ?_; rintro e w4 ⟨rfl, hw4⟩; subst w4) | (at_builtin; refine wpList_append_own _ rfl _ _ 41 rfl w.heap.size 3 i0 (.int .i64 0) 1 8 Try.underlying41 HI.out hz0 hz1 hz2 rfl (by decide) u13 (k) (ints (k)).flatten ?c1 ?c0 ⟨w7.heap.size, 0, none⟩ 1 1 [.int .i64 ((k : Int) + 3)] ?c2 rfl ?c3 ?c4 ?c5 ?c6 ?c7 ?_; (case c1 => rfl); (case c0 => exact HO8.out); (case c2 => rfl); (case c3 => exact World.news_of_block (heap_alloc_new w7 _)); (case c4 => simp [Value.oneCell']); (case c5 => unfold maxLen; omega); (case c6 => omega); (case c7 => exact HB8.out.size); intro v9 w9 hown hgrow hnil; have HB9 := hid (HB8.out.grown hgrow HB8.out.size (fun x hx => (HO8.out.lt x hx).1)); have HS9 := hid (HS8.out.grown HO8.out (by decide) (by decide) (Nat.le_of_eq HN7.out) hgrow); have HO9 := hid (show ROut w9 w.heap.size 3 1 v9 (ints (k + 1)) from by rw [ints_succ]; exact ROut.push (ints_length _) hown); clear hown hgrow hnil))
      go_roundw
      case rel => exact ⟨k + 1, by omega, by go_num, hid ⟨B7, D7, G7, HS9.out, ha7, HN7.out, HB9.out, HO9.out⟩⟩
      case measure => simp [RowKit.intOf]; omega
    · obtain rfl : K = k := by omega
      obtain ⟨Aj, pj, ej⟩ := HS.out.ok.jobs.slice
      have c7 := HS.out.ok.c (k := 7) (u := .slice Aj 0 pj) (by show some G.jsl = _; rw [ej]; rfl)
      clear ej
      go_wp2_with (go_at_call 15; refine (rnumL_c 9).mono ?_; rintro e w5 ⟨rfl, hb⟩; have HS5 := hid (HS.out.below hb); have HB5 := hid (HB.out.trans (hb.mono HB.out.size)); have HO5 := hid (HO.out.below hb); clear hb)
      clear c7
      refine (settle_set HS5.out (p := 2) (by decide) (by decide) 1 rfl (c := oc K) rfl rfl rfl (by simp only [oc, ow_length]; omega) (by simp [po, p0]) kept (numV 9) (fun _ => .inl (by decide))).mono ?_
      rintro e w6 ⟨rfl, B6, D6, G6, hS6, hM6⟩
      rw [po_jobs] at hS6
      have HS6 := hid (show St1 B6 w6 D6 G6 (pq kept K 0) from hS6)
      have ha6 := hM6.at_
      have HB6 := hid (HB5.out.trans (hM6.low HS5.out (Nat.le_of_eq HN.out.symm)))
      have HN6 := hid (hM6.ext.hn.trans HN.out)
      have HO6 := hid (hM6.rowOut HS5.out HO5.out (Nat.le_of_eq HN.out.symm) (by decide))
      clear hS6 hM6 HS5 HB5 HO5 HS HB HO HN
      rw [← ha6]
      clear ha6
      go_wp2_with (go_at_call 15; refine (rnumL_c 8).mono ?_; rintro e w5 ⟨rfl, hb⟩; have HS5 := hid (HS6.out.below hb); have HB5 := hid (HB6.out.trans (hb.mono HB6.out.size)); have HO5 := hid (HO6.out.below hb); clear hb)
      refine (settle_gone HS5.out (p := 2) (by decide) (by decide) (c := os kept K) rfl (by cases kept <;> simp [os, settled]) again (numV 8)).mono ?_
      rintro e w7 ⟨rfl, B7, D7, G7, hS7, hM7⟩
      have ha7 := hM7.at_
      have HS7 := hid hS7
      have HB7 := hid (HB5.out.trans (hM7.low HS5.out (Nat.le_of_eq HN6.out.symm)))
      have HN7 := hid (hM7.ext.hn.trans HN6.out)
      have HO7 := hid (hM7.rowOut HS5.out HO5.out (Nat.le_of_eq HN6.out.symm) (by decide))
      clear hS7 hM7 HS5 HB5 HO5 HS6 HB6 HO6 HN6
      generalize G6.at_ = a2 at ha7 ⊢
      go_wp2_with fail
      go_loopw [13, 17] (fun v i wx => ∃ k : Nat, k ≤ J ∧ i = .int .i64 k ∧ Box (∃ B D G, St1 B wx D G (pq kept K k) ∧ G.at_ = a2 ∧ B.n = w.heap.size ∧ Below w.heap.size w wx ∧ ROut wx w.heap.size 3 1 v (ints (K + k)))) (fun _ i _ => J - (RowKit.intOf i).toNat)
      case atStart => exact ⟨0, by omega, rfl, hid ⟨B7, D7, G7, HS7.out, ha7, HN7.out, HB7.out, HO7.out⟩⟩
      case round =>
        clear HS7 HB7 HN7 HO7 
        obtain ⟨k, hk, rfl, HX⟩ := hrel
        obtain ⟨B, D, G, hS, hat, hN, hB, hO⟩ := HX.out
        have HS := hid hS
        have HN := hid hN
        have HB := hid hB
        have HO := hid hO
        clear HX hS hN hB hO
        subst hat
        rcases Nat.lt_or_ge k J with hlt | hge
        · have hlt' : (k : Int) < J := by omega
          have hcast : ((K + k : Nat) : Int) = (K : Int) + (k : Int) := by omega
          go_wp2_with (first
            | (go_at_call_of 34 (Value.string ⟨#[109, 97, 120]⟩); refine (rownL_c _ ⟨#[109, 97, 120]⟩ 0).mono ?_; rintro e w5 ⟨rfl, hb⟩; have HS5 := hid (HS.out.below hb); have HB5 := hid (HB.out.trans (hb.mono HB.out.size)); have HO5 := hid (HO.out.below hb); clear hb)
            | (go_at_call_of 34 (Value.string ⟨#[109, 105, 110]⟩); refine (rownL_c _ ⟨#[109, 105, 110]⟩ 0).mono ?_; rintro e w6 ⟨rfl, hb⟩; have HS6 := hid (HS5.out.below hb); have HB6 := hid (HB5.out.trans (hb.mono HB5.out.size)); have HO6 := hid (HO5.out.below hb); clear hb))
          refine (then_pq kept K k (by omega) HS6.out).mono ?_
          rintro e w7 ⟨rfl, B7, D7, G7, hS7, hM7⟩
          have ha7 := hM7.at_
          have HB7 := hid (HB6.out.trans (hM7.low HS6.out (Nat.le_of_eq HN.out.symm)))
          have HN7 := hid (hM7.ext.hn.trans HN.out)
          have HO7 := hid (hM7.rowOut HS6.out HO6.out (Nat.le_of_eq HN.out.symm) (by decide))
          have hb8 := (Below.refl w7.heap.size w7).alloc (Nat.le_refl _) (.cells #[.int .i64 (((K + k : Nat) : Int) + 3)] 3)
          have HS8 := hid (hS7.below hb8)
          have HB8 := hid (HB7.out.trans (hb8.mono HB7.out.size))
          have HO8 := hid (show (w7.alloc (.cells #[.int .i64 (((K + k : Nat) : Int) + 3)] 3)).ownsRow w.heap.size 3 1 u13 (K + k) (ints (K + k)).flatten by have := HO7.out.below hb8; unfold ROut at this; rwa [ints_length] at this)
          clear hS7 hM7 hb8 HS6 HB6 HO6 HS5 HB5 HO5 HS HB HO HN
          go_wp2_with (first | (go_at_call 14; refine (err_c 0 _).mono ?_; rintro e w4 ⟨rfl, hw4⟩; subst w4) | (at_builtin; refine wpList_append_own _ rfl _ _ 41 rfl w.heap.size 3 i0 (.int .i64 0) 1 8 Try.underlying41 HI.out hz0 hz1 hz2 rfl (by decide) u13 (K + k) (ints (K + k)).flatten ?c1 ?c0 ⟨w7.heap.size, 0, none⟩ 1 1 [.int .i64 (((K + k : Nat) : Int) + 3)] ?c2 rfl ?c3 ?c4 ?c5 ?c6 ?c7 ?_; (case c1 => rfl); (case c0 => exact HO8.out); (case c2 => rfl); (case c3 => exact World.news_of_block (heap_alloc_new w7 _)); (case c4 => simp [Value.oneCell']); (case c5 => unfold maxLen; omega); (case c6 => omega); (case c7 => exact HB8.out.size); intro v9 w9 hown hgrow hnil; have HB9 := hid (HB8.out.grown hgrow HB8.out.size (fun x hx => (HO8.out.lt x hx).1)); have HS9 := hid (HS8.out.grown HO8.out (by decide) (by decide) (Nat.le_of_eq HN7.out) hgrow); have HO9 := hid (show ROut w9 w.heap.size 3 1 v9 (ints (K + k + 1)) from by rw [ints_succ]; exact ROut.push (ints_length _) hown); clear hown hgrow hnil))
          go_roundw
          case rel => exact ⟨k + 1, by omega, by go_num, hid ⟨B7, D7, G7, HS9.out, ha7, HN7.out, HB9.out, (show ROut w9 w.heap.size 3 1 v9 (ints (K + (k + 1))) from HO9.out)⟩⟩
          case measure => simp [RowKit.intOf]; omega
        · obtain rfl : J = k := by omega
          cases kept
          · obtain ⟨Aj, pj, ej⟩ := HS.out.ok.jobs.slice
            obtain ⟨N, hNN⟩ : ∃ N, N = K + J := ⟨_, rfl⟩
            rw [← hNN] at HO
            have hNb : N ≤ 16 := by omega
            have hjl : ((pq false K J).jobs.map JobD.row).length = N := by simp [pq, hNN]
            rw [hjl] at ej
            have c7 := HS.out.ok.c (k := 7) (u := .slice Aj N pj) (by show some G.jsl = _; rw [ej])
            obtain ⟨Ac, pc, rfl⟩ := HO.out.slice
            rw [ints_length] at HO
            have hj := HS.out.ok.jobs.here
            have hi := RowR.own_here (sz := 1) HO.out (fun c hc => by unfold ints at hc; obtain ⟨m, _, rfl⟩ := List.mem_map.1 hc; rfl) rfl
            rw [ej] at hj
            have HJ := hid hj
            have HI' := hid hi
            have hat' := (HS.out.ok.foot_lt (.inl rfl)).1
            have HNN := hid hNN
            clear hj hi ej hjl hNN
            rw [ints_length]
            go_wp2_with fail
            go_loopw [21] (fun i wx => ∃ j : Nat, j ≤ N ∧ i = .int .i64 j ∧ Box (Below wr.heap.size wr wx)) (fun i _ => N - (RowKit.intOf i).toNat)
            case atStart => exact ⟨0, by omega, rfl, hid (Below.refl _ _)⟩
            case round =>
              obtain ⟨j, hj, rfl, HBr⟩ := hrel
              rcases Nat.lt_or_ge j N with hjk | hjk
              · have hjk' : (j : Int) < (N : Int) := by omega
                have hjk2 : j < K + J := by have := HNN.out; omega
                have gj : ((pq false K J).jobs.map JobD.row)[j]? = some (JobD.row ⟨⟨6, 0, ⟨#[109, 105, 110]⟩⟩, ⟨3, 9, ByteArray.empty⟩, (j : Int) + 3, false⟩) := by
                  simp [pq, hjk2, oj, minV, numV]
                have gi : (ints N)[j]? = some [.int .i64 ((j : Int) + 3)] := by simp [ints, hjk]
                obtain ⟨bj, oj', ebj, _, hcj⟩ := HJ.out.get.2.2 j _ gj
                obtain ⟨bi, oi, ebi, _, hci⟩ := HI'.out.get.2.2 j _ gi
                subst ebj ebi
                have lj := block_lt_of_cell (hcj 0 _ rfl)
                have li := block_lt_of_cell (hci 0 _ rfl)
                have lj' := Nat.lt_of_lt_of_le lj HBr.out.size
                have li' := Nat.lt_of_lt_of_le li HBr.out.size
                have j0 := ov_cell lj' (carry HBr.out lj (hcj 0 _ rfl))
                have j1 := ov_cell lj' (carry HBr.out lj (hcj 1 _ rfl))
                have j2 := ov_cell lj' (carry HBr.out lj (hcj 2 _ rfl))
                have j3 := ov_cell lj' (carry HBr.out lj (hcj 3 _ rfl))
                have j4 := ov_cell lj' (carry HBr.out lj (hcj 4 _ rfl))
                have j5 := ov_cell lj' (carry HBr.out lj (hcj 5 _ rfl))
                have j6 := ov_cell lj' (carry HBr.out lj (hcj 6 _ rfl))
                have j7 := ov_cell lj' (carry HBr.out lj (hcj 7 _ rfl))
                have i1 := ov_cell li' (carry HBr.out li (hci 0 _ rfl))
                have d7 := ov_cell (Nat.lt_of_lt_of_le hat' HBr.out.size) (carry HBr.out hat' c7)
                simp only [Nat.add_zero, Nat.mul_one] at j0 i1
                clear hjk2 gj gi hcj hci lj li lj' li'
                go_upto_region 35 with fail
                refine wp_region_over_lit (by kernel_rfl) (by kernel_rfl) ?_
                repeat (first
                  | go_big_quiet_step ((first | (go_at_call 15; exact calls_over (rnumL_c 9)) | (go_at_call 34; exact calls_over (rownL_c _ ⟨#[109, 105, 110]⟩ 0)))))
                refine wpQuiet_nil ?_
                intro W' hW'
                obtain ⟨x, rfl⟩ := hW'
                have HBx := hid (HBr.out.trans ((ov_below x).mono HBr.out.size))
                clear j0 j1 j2 j3 j4 j5 j6 j7 i1 d7
                go_wp2_with fail
                go_roundw
                case rel => exact ⟨j + 1, by omega, by go_num, HBx⟩
                case measure => simp [RowKit.intOf]; omega
              · obtain rfl : j = N := by omega
                go_wp2_with fail
                refine (awake18_c _).mono ?_
                rintro e w9 ⟨rfl, hb9⟩
                have HB9 := hid (HB.out.trans ((HBr.out.trans (hb9.mono HBr.out.size)).mono HB.out.size))
                clear hb9
                go_wp2_with fail
                go_ret
                exact ⟨rfl, HB9.out⟩
          · obtain ⟨Aj, pj, ej⟩ := HS.out.ok.jobs.slice
            obtain ⟨N, hNN⟩ : ∃ N, N = K + J := ⟨_, rfl⟩
            rw [← hNN] at HO
            have hNb : N ≤ 16 := by omega
            have hjl : ((pq true K J).jobs.map JobD.row).length = N := by simp [pq, hNN]
            rw [hjl] at ej
            have c7 := HS.out.ok.c (k := 7) (u := .slice Aj N pj) (by show some G.jsl = _; rw [ej])
            obtain ⟨Ac, pc, rfl⟩ := HO.out.slice
            rw [ints_length] at HO
            have hj := HS.out.ok.jobs.here
            have hi := RowR.own_here (sz := 1) HO.out (fun c hc => by unfold ints at hc; obtain ⟨m, _, rfl⟩ := List.mem_map.1 hc; rfl) rfl
            rw [ej] at hj
            have HJ := hid hj
            have HI' := hid hi
            have hat' := (HS.out.ok.foot_lt (.inl rfl)).1
            have HNN := hid hNN
            clear hj hi ej hjl hNN
            rw [ints_length]
            go_wp2_with fail
            go_loopw [21] (fun i wx => ∃ j : Nat, j ≤ N ∧ i = .int .i64 j ∧ Box (Below wr.heap.size wr wx)) (fun i _ => N - (RowKit.intOf i).toNat)
            case atStart => exact ⟨0, by omega, rfl, hid (Below.refl _ _)⟩
            case round =>
              obtain ⟨j, hj, rfl, HBr⟩ := hrel
              rcases Nat.lt_or_ge j N with hjk | hjk
              · have hjk' : (j : Int) < (N : Int) := by omega
                have hjk2 : j < K + J := by have := HNN.out; omega
                have gj : ((pq true K J).jobs.map JobD.row)[j]? = some (JobD.row ⟨⟨6, 0, ⟨#[109, 97, 120]⟩⟩, ⟨3, 9, ByteArray.empty⟩, (j : Int) + 3, true⟩) := by
                  simp [pq, hjk2, oj, maxV, numV]
                have gi : (ints N)[j]? = some [.int .i64 ((j : Int) + 3)] := by simp [ints, hjk]
                obtain ⟨bj, oj', ebj, _, hcj⟩ := HJ.out.get.2.2 j _ gj
                obtain ⟨bi, oi, ebi, _, hci⟩ := HI'.out.get.2.2 j _ gi
                subst ebj ebi
                have lj := block_lt_of_cell (hcj 0 _ rfl)
                have li := block_lt_of_cell (hci 0 _ rfl)
                have lj' := Nat.lt_of_lt_of_le lj HBr.out.size
                have li' := Nat.lt_of_lt_of_le li HBr.out.size
                have j0 := ov_cell lj' (carry HBr.out lj (hcj 0 _ rfl))
                have j1 := ov_cell lj' (carry HBr.out lj (hcj 1 _ rfl))
                have j2 := ov_cell lj' (carry HBr.out lj (hcj 2 _ rfl))
                have j3 := ov_cell lj' (carry HBr.out lj (hcj 3 _ rfl))
                have j4 := ov_cell lj' (carry HBr.out lj (hcj 4 _ rfl))
                have j5 := ov_cell lj' (carry HBr.out lj (hcj 5 _ rfl))
                have j6 := ov_cell lj' (carry HBr.out lj (hcj 6 _ rfl))
                have j7 := ov_cell lj' (carry HBr.out lj (hcj 7 _ rfl))
                have i1 := ov_cell li' (carry HBr.out li (hci 0 _ rfl))
                have d7 := ov_cell (Nat.lt_of_lt_of_le hat' HBr.out.size) (carry HBr.out hat' c7)
                simp only [Nat.add_zero, Nat.mul_one] at j0 i1
                clear hjk2 gj gi hcj hci lj li lj' li'
                go_upto_region 35 with fail
                refine wp_region_over_lit (by kernel_rfl) (by kernel_rfl) ?_
                repeat (first
                  | go_big_quiet_step ((first | (go_at_call 15; exact calls_over (rnumL_c 9)) | (go_at_call 34; exact calls_over (rownL_c _ ⟨#[109, 97, 120]⟩ 0)))))
                refine wpQuiet_nil ?_
                intro W' hW'
                obtain ⟨x, rfl⟩ := hW'
                have HBx := hid (HBr.out.trans ((ov_below x).mono HBr.out.size))
                clear j0 j1 j2 j3 j4 j5 j6 j7 i1 d7
                go_wp2_with fail
                go_roundw
                case rel => exact ⟨j + 1, by omega, by go_num, HBx⟩
                case measure => simp [RowKit.intOf]; omega
              · obtain rfl : j = N := by omega
                go_wp2_with fail
                refine (awake18_c _).mono ?_
                rintro e w9 ⟨rfl, hb9⟩
                have HB9 := hid (HB.out.trans ((HBr.out.trans (hb9.mono HBr.out.size)).mono HB.out.size))
                clear hb9
                go_wp2_with fail
                go_ret
                exact ⟨rfl, HB9.out⟩
end Go.Proofs.Ytdgpblhmfkpblaa.Pg
