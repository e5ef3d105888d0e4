/- How many pages the document's family has. -/
import Derived.Test.YtljbdmmidajmdaaPg44
namespace Go.Proofs.Ytljbdmmidajmdaa.Pg
open Go.RowKit
attribute [local go_sem ↓] Go.wp_at_zero Go.wp_at_succ

/-- All numbers of pages. -/
def ids (R : List RB) : List Nat := R.flatMap RB.pgs
theorem ids_take {R : List RB} {k : Nat} {x : RB} (hx : R[k]? = some x) : ids (R.take (k + 1)) = ids (R.take k) ++ x.pgs := by
  unfold ids
  rw [List.take_add_one, hx]
  simp
theorem ids_le {R : List RB} {k : Nat} {x : RB} (hx : R[k]? = some x) (j : Nat) : (ids (R.take k) ++ x.pgs.take j).length ≤ (ids R).length := by
  have h1 : ids R = ids (R.take (k + 1)) ++ ids (R.drop (k + 1)) := by
    unfold ids
    rw [← List.flatMap_append, List.take_append_drop]
  rw [h1, ids_take hx]
  simp only [List.length_append, List.length_take]
  omega
/-- A row of numbers that the function made. -/
structure Seen (B : Nat) (w : World) (v : Value) (s : List Nat) (P : Nat → Prop) : Prop where
  own : w.ownsRow B 3 1 v s.length (s.map numV)
  nd : s.Nodup
  mem : ∀ p, p ∈ s ↔ P p
section
variable {B : Nat} {w w' : World} {v : Value} {s : List Nat} {P Q : Nat → Prop}
theorem Seen.below (h : Seen B w v s P) (hb : Below w.heap.size w w') : Seen B w' v s P := ⟨own_move h.own (fun k hk => hb.block k (h.own.lt k hk).2), h.nd, h.mem⟩
theorem Seen.is (h : Seen B w v s P) (hq : ∀ p, P p ↔ Q p) : Seen B w v s Q := ⟨h.own, h.nd, fun p => (h.mem p).trans (hq p)⟩
theorem Seen.slice (h : Seen B w v s P) : ∃ A c, v = .slice A s.length c ∧ s.length ≤ c ∧ c ≤ maxLen ∧ ∀ j n, s[j]? = some n → ∃ g, A = some ⟨g, 0, none⟩ ∧ w.cell? ⟨g, j, none⟩ = some (numV n) := by
  rcases h.own.2 with ⟨hv, h0⟩ | ⟨g, c, cur, hv, q1, q2, q3, q4, _⟩
  · rw [h0]
    exact ⟨none, 0, hv, Nat.le_refl _, by decide, fun j n hj => by rw [List.length_eq_zero_iff.1 h0] at hj; simp at hj⟩
  · refine ⟨some ⟨g, 0, none⟩, c, hv, q3, q4, fun j n hj => ⟨g, rfl, ?_⟩⟩
    have := h.own.cells (g := g) (by rw [hv]; rfl) j (numV n) (by rw [List.getElem?_map, hj]; rfl)
    rwa [show (⟨g, 0, none⟩ : Addr).add j = ⟨g, j, none⟩ by unfold Addr.add; split <;> simp_all] at this
end

set_option maxHeartbeats 6400000 in
set_option maxRecDepth 100000 in
theorem rlive_c {B : Nat} {w : World} {D : FD} {fb g cap next : Nat} {R : List RB} (h : RF B w D fb g cap R next) (hn : (ids R).length ≤ 1000000) :
    Calls Try.prog 47 #[.pointer (some ⟨fb, 0, none⟩)] w fun e w' => e = .returned (.int .i64 (distinct (ids R) : Nat)) ∧ Below w.heap.size w w' := by
  have hm := h.small
  unfold maxLen at hm
  have H := hid h
  have HN := hid hn
  clear h hn
  obtain ⟨i0, hi, hz0, hz1, hz2⟩ := info_parts infoInt
  have HI := hid hi
  clear hi
  have c0 := H.out.c0
  go_enter Try.func47, Try.ntmps47
  go_wp2_with fail
  go_loopw [3, 4] (fun v i wx => ∃ k s, k ≤ R.length ∧ i = .int .i64 (k : Nat) ∧ Box (Below w.heap.size w wx) ∧ Box (Seen w.heap.size wx v s (fun p => p ∈ ids (R.take k)))) (fun _ i _ => R.length - (intOf i).toNat)
  case atStart => exact ⟨0, [], by omega, rfl, hid (Below.refl _ _), hid ⟨World.ownsRow_nil _ _ _ _, List.nodup_nil, fun p => by simp [ids]⟩⟩
  case round =>
    clear c0
    obtain ⟨k, s, hk, rfl, HB, HS⟩ := hrel
    have c0 := (H.out.below HB.out).c0
    rcases Nat.lt_or_ge k R.length with hlt | hge
    · have hlt' : (k : Int) < (R.length : Nat) := by omega
      have hx : R[k]? = some R[k] := List.getElem?_eq_getElem hlt
      generalize R[k] = x at hx
      have HX := hid hx
      clear hx
      go_wp2_with fail
      go_loopw [3, 5] (fun v i wx => ∃ j s, j ≤ x.pgs.length ∧ i = .int .i64 (j : Nat) ∧ Box (Below w.heap.size w wx) ∧ Box (Seen w.heap.size wx v s (fun p => p ∈ ids (R.take k) ++ x.pgs.take j))) (fun _ i _ => x.pgs.length - (intOf i).toNat)
      case atStart => exact ⟨0, s, by omega, rfl, HB, hid (HS.out.is (fun p => by simp))⟩
      case round =>
        clear c0 HB HS s
        obtain ⟨j, s, hj, rfl, HB, HS⟩ := hrel
        have c0 := (H.out.below HB.out).c0
        obtain ⟨A, p, A', p', d0, d1, d2, -, -, -, -, -, f1, f2, -, f3, -⟩ := ((H.out.below HB.out).bk k x HX.out).ex
        unfold maxLen at f2
        clear d0 d2
        rcases Nat.lt_or_ge j x.pgs.length with hjl | hjge
        · have hjl' : (j : Int) < (x.pgs.length : Nat) := by omega
          have hy : x.pgs[j]? = some x.pgs[j] := List.getElem?_eq_getElem hjl
          generalize x.pgs[j] = y at hy
          obtain ⟨b', o', rfl, hc⟩ := f3.at_ j y hy
          have HY := hid hy
          obtain ⟨As, cs, rfl, hs1, hs2, hsc⟩ := HS.out.slice
          unfold maxLen at hs2
          have HSC := hid hsc
          clear hy f3 hsc
          go_wp2_with fail
          go_loopw [6, 7] (fun e i wx => ∃ z t, z ≤ s.length ∧ i = .int .i64 (z : Nat) ∧ e = .bool t ∧ Box (t = true ↔ y ∈ s.take z) ∧ Box (Below wr.heap.size wr wx)) (fun _ i _ => s.length - (intOf i).toNat)
          case atStart => exact ⟨0, false, by omega, rfl, rfl, hid (by simp), hid (Below.refl _ _)⟩
          case round =>
            obtain ⟨z, t, hz, rfl, rfl, HT, HW⟩ := hrel
            have a0 := keepc HW.out c0
            have a1 := keepc HW.out d1
            have a2 := keepc HW.out hc
            rcases Nat.lt_or_ge z s.length with hzl | hzge
            · have hzl' : (z : Int) < (s.length : Nat) := by omega
              have hz0' : (0 : Int) ≤ z := by omega
              have hj0' : (0 : Int) ≤ j := by omega
              have hk0' : (0 : Int) ≤ k := by omega
              have hsz : s[z]? = some s[z] := List.getElem?_eq_getElem hzl
              generalize s[z] = q at hsz
              obtain ⟨gs, rfl, hq⟩ := HSC.out z q hsz
              have a3 := keepc HW.out hq
              have HZ := hid hsz
              have htk : s.take (z + 1) = s.take z ++ [q] := by rw [List.take_add_one, hsz]; rfl
              have HTK := hid htk
              clear hsz hq htk c0 d1 hc
              unfold numV at a3
              cases t with
              | true =>
                go_wp2_with fail
                go_big_region
                go_wp2_with fail
                clear a0 a1 a2 a3
                go_roundw
                case rel => exact ⟨z + 1, true, by omega, by go_num, rfl, hid ⟨fun _ => by rw [HTK.out]; exact List.mem_append_left _ (HT.out.1 (by simp)), fun _ => rfl⟩, hid HW.out.drew⟩
                case measure => simp [intOf]; omega
              | false =>
                by_cases hqy : q = y
                · subst hqy
                  go_wp2_with fail
                  go_region_held3 (fun w' => w'.cell? ⟨fb, 0, none⟩ = some (.slice (some ⟨g, 0, none⟩) R.length cap) ∧ w'.cell? ⟨g, k * 3 + 1, none⟩ = some (.slice (some ⟨b', o', none⟩) x.pgs.length p') ∧ w'.cell? ⟨b', o' + j, none⟩ = some (.int .i64 (q : Nat)) ∧ w'.cell? ⟨gs, z, none⟩ = some (.int .i64 (q : Nat))) (go_keep) (fail)
                  go_wp2_with fail
                  clear a0 a1 a2 a3
                  go_roundw
                  case rel => exact ⟨z + 1, true, by omega, by go_num, rfl, hid ⟨fun _ => by rw [HTK.out]; simp, fun _ => rfl⟩, hid HW.out.drew⟩
                  case measure => simp [intOf]; omega
                · have hqb : ((q : Int) == (y : Int)) = false := by simp; omega
                  have HQ := hid hqy
                  clear hqy
                  go_wp2_with fail
                  go_region_held3 (fun w' => w'.cell? ⟨fb, 0, none⟩ = some (.slice (some ⟨g, 0, none⟩) R.length cap) ∧ w'.cell? ⟨g, k * 3 + 1, none⟩ = some (.slice (some ⟨b', o', none⟩) x.pgs.length p') ∧ w'.cell? ⟨b', o' + j, none⟩ = some (.int .i64 (y : Nat)) ∧ w'.cell? ⟨gs, z, none⟩ = some (.int .i64 (q : Nat))) (go_keep) (fail)
                  go_wp2_with fail
                  clear a0 a1 a2 a3
                  go_roundw
                  case rel =>
                    refine ⟨z + 1, false, by omega, by go_num, rfl, hid ⟨(fun e => by cases e), fun hm => ?_⟩, hid HW.out.drew⟩
                    rw [HTK.out] at hm
                    rcases List.mem_append.1 hm with hm | hm
                    · exact HT.out.2 hm
                    · exact absurd (List.mem_singleton.1 hm).symm HQ.out
                  case measure => simp [intOf]; omega
            · obtain rfl : z = s.length := by omega
              rw [List.take_length] at HT
              have HB2 := hid (HB.out.trans (HW.out.mono HB.out.size))
              have HS2 := hid (HS.out.below HW.out)
              have hP := fun p => HS.out.mem p
              have htk : x.pgs.take (j + 1) = x.pgs.take j ++ [y] := by rw [List.take_add_one, HY.out]; rfl
              have HTK := hid htk
              have hlen : s.length ≤ 1000000 := by
                rw [← distinct_nodup HS.out.nd, distinct_congr hP]
                exact Nat.le_trans (distinct_le _) (Nat.le_trans (ids_le HX.out j) HN.out)
              have HP := hid hP
              clear htk hP c0 d1 hc
              cases t with
              | true =>
                go_wp2_with fail
                clear a0 a1 a2
                go_roundw
                case rel =>
                  refine ⟨j + 1, s, by omega, by go_num, HB2, hid (HS2.out.is (fun p => ?_))⟩
                  rw [HTK.out]
                  have hy := (HP.out y).1 (HT.out.1 (by simp))
                  simp only [List.mem_append, List.mem_singleton] at hy ⊢
                  constructor
                  · rintro (h | h)
                    · exact .inl h
                    · exact .inr (.inl h)
                  · rintro (h | h | h)
                    · exact .inl h
                    · exact .inr h
                    · subst h; exact hy
                case measure => simp [intOf]; omega
              | false =>
                have hW4 := (Below.refl wr.heap.size wr).alloc (Nat.le_refl _) (.cells #[.int .i64 (y : Nat)] 3)
                have HB5 := hid (HB2.out.trans (hW4.mono HB2.out.size))
                have HOwn4 := hid (HS2.out.own.alloc (.cells #[.int .i64 (y : Nat)] 3))
                have HNews := hid (World.news_of_block (heap_alloc_new wr (.cells #[.int .i64 (y : Nat)] 3)))
                clear hW4
                go_wp2_with (at_builtin; refine wpList_append_lies _ rfl _ _ 45 rfl w.heap.size 3 i0 (.int .i64 0) 1 8 Try.underlying45 HI.out hz0 hz1 hz2 rfl (by decide) (.slice As s.length cs) s.length (s.map numV) ?c1 HOwn4.out ⟨wr.heap.size, 0, none⟩ 1 1 [.int .i64 (y : Nat)] ?c2 rfl ?c3 ?c4 (by decide) ?c5 ?c6 ?c7 (wr.heap.size + 1) ?c8 ?_; (case c1 => rfl); (case c2 => rfl); (case c3 => exact HNews.out); (case c4 => simp [Value.oneCell']); (case c5 => unfold maxLen; omega); (case c6 => omega); (case c7 => exact HB5.out.size); (case c8 => simp); intro g5 cp5 w5 hown hgrow hat hlt; have hb6 : Below w.heap.size w w5 := HB5.out.grown hgrow HB5.out.size (fun q hq => (HOwn4.out.lt q hq).1); have HB6 := hid hb6; have HOwn5 := hid hown; clear hown hgrow hat hlt hb6 a0 a1 a2)
                go_roundw
                case rel =>
                  refine ⟨j + 1, s ++ [y], by omega, by go_num, HB6, hid ⟨by rw [List.length_append, List.map_append]; exact HOwn5.out, ?_, fun p => ?_⟩⟩
                  · rw [List.nodup_append]
                    refine ⟨HS2.out.nd, by simp, fun a ha b hb e => ?_⟩
                    subst e
                    obtain rfl := List.mem_singleton.1 hb
                    have := HT.out.2 ha
                    cases this
                  · rw [HTK.out, ← List.append_assoc, List.mem_append, List.mem_append (t := [y]), HP.out p]
                case measure => simp [intOf]; omega
        · obtain rfl : j = x.pgs.length := by omega
          clear f3
          go_wp2_with fail
          go_roundw
          case rel => exact ⟨k + 1, s, by omega, by go_num, HB, hid (HS.out.is (fun p => by rw [ids_take HX.out, List.take_length]))⟩
          case measure => simp [intOf]; omega
    · obtain rfl : k = R.length := by omega
      obtain ⟨As, cs, rfl, -, -, -⟩ := HS.out.slice
      go_wp2_with fail
      go_ret
      have := HS.out.mem
      rw [List.take_length] at this
      rw [show distinct (ids R) = s.length by rw [distinct_congr (fun p => (this p).symm), distinct_nodup HS.out.nd]]
      exact ⟨rfl, HB.out⟩
end Go.Proofs.Ytljbdmmidajmdaa.Pg
