/- Contract of Mark, of a book that is there. -/
import Derived.Test.YtdgpblhmfkpblaaPg12
namespace Go.Proofs.Ytdgpblhmfkpblaa.Pg
open Go.RowKit

theorem own_form {w : World} {base n : Nat} {T : TypeId} {size : Nat} {v : Value} {xs : List Value} (h : w.ownsRow base T size v n xs) : ∃ A m c, v = .slice A m c := by
  rcases h.2 with ⟨e, _⟩ | ⟨_, _, _, e, _⟩ <;> exact ⟨_, _, _, e⟩

section
variable {B : Bd} {w : World} {D : FD} {b : Nat} {K : BkD}

theorem Fam.markEnd {wr w2 : World} {v : Value} (hF : Fam B wr { D with pg := bump D.pg K.pgs }) (hG : Goes B w D wr { D with pg := bump D.pg K.pgs }) (hb : Below wr.heap.size wr w2)
    (ho : w2.ownsRow wr.heap.size 167 1 v K.pgs.length (K.pgs.map ptr)) (hB : B ≤ w.heap.size) :
    w.heap.size ≤ w2.heap.size ∧ Fam B (w2.alloc (.cells #[.pointer (some ⟨D.fam, 0, none⟩), v, .int .i64 K.n, .bool false] 171)) (marked D K w2.heap.size v) ∧
      Goes B w D (w2.alloc (.cells #[.pointer (some ⟨D.fam, 0, none⟩), v, .int .i64 K.n, .bool false] 171)) (marked D K w2.heap.size v) := by
  have s1 := hG.fr.size
  have s2 := hb.size
  have h2 := hF.below hb
  have hA := h2.addBook K.n (by omega) (own_lower ho (by omega)) (fun k X g hX hg e => by
    have := (own_typ ho e).2
    have := (hF.tBkRow hX hg).lt
    omega)
  have gA : Goes B wr { D with pg := bump D.pg K.pgs } (w2.alloc (.cells #[.pointer (some ⟨D.fam, 0, none⟩), v, .int .i64 K.n, .bool false] 171)) (marked D K w2.heap.size v) :=
    ⟨(Fr.of_below hb).trans (Fr.alloc _), fun k hk _ => (heap_alloc_old _ _ (by omega)).trans (hb.block k hk), fun k hk => (hA.2 k hk).elim .inl (fun e => .inr (e.elim (fun e => by omega) (fun e => (own_typ ho e).2)))⟩
  exact ⟨by omega, hA.1, hG.trans gA⟩

set_option maxHeartbeats 1600000 in
set_option maxRecDepth 100000 in
theorem mark_c (h : Fam B w D) (hB : B ≤ w.heap.size) (hK : D.bk b = some K) (hg : K.gone = false) (hlen : K.pgs.length ≤ 1000000) (hps : ∀ p ∈ K.pgs, ∃ P, D.pg p = some P ∧ 0 ≤ P.sh ∧ P.sh ≤ 1000000) :
    Calls Try.prog 105 #[ptr b] w fun e w' => ∃ b' v, e = .returned (.pointer (some ⟨b', 0, none⟩)) ∧ w.heap.size ≤ b' ∧ Fam B w' (marked D K b' v) ∧ Goes B w D w' (marked D K b' v) := by
  obtain ⟨c0, c1, c2, c3, cf⟩ := (h.bk b K hK).reads
  rw [hg] at c3
  obtain ⟨A, cap, e, hrow⟩ : ∃ A cap, K.sl = .slice A K.pgs.length cap ∧ (∀ k p, K.pgs[k]? = some p → ∃ g, A = some ⟨g, 0, none⟩) := by
    rcases (h.bk b K hK).row.2 with ⟨e, h0⟩ | ⟨g, cap, cur, e, _⟩
    · exact ⟨none, 0, by rw [h0]; exact e, fun k p hp => by have := (List.getElem?_eq_some_iff.1 hp).1; omega⟩
    · exact ⟨_, _, e, fun _ _ _ => ⟨g, rfl⟩⟩
  rw [e] at c1
  have H := hid h
  have HK := hid hK
  have E := hid e
  have HR := hid hrow
  have HP := hid hps
  clear h hK e cf hrow hps
  unfold ptr at *
  go_enter Try.func105, Try.ntmps105
  go_wp2_with fail
  go_loopw [18] (fun i wr => ∃ k : Nat, k ≤ K.pgs.length ∧ i = .int .i64 k ∧ Box (Fam B wr (bumped D K k)) ∧ Box (Goes B w D wr (bumped D K k))) (fun i _ => K.pgs.length - (intOf i).toNat)
  case atStart => exact ⟨0, Nat.zero_le _, rfl, hid (by unfold bumped; rw [List.take_zero, bump_nil]; exact H.out), hid (by unfold bumped; rw [List.take_zero, bump_nil]; exact Goes.refl _ _ _)⟩
  case round =>
    obtain ⟨k, hk, rfl, HF, HG⟩ := hrel
    clear c0 c1 c2 c3
    rcases Nat.lt_or_ge k K.pgs.length with hlt | hge
    · obtain ⟨p, hp⟩ : ∃ p, K.pgs[k]? = some p := ⟨_, List.getElem?_eq_getElem hlt⟩
      obtain ⟨P, hP, hs0, hs1⟩ := HP.out p (List.mem_of_getElem? hp)
      obtain ⟨g, cap', e', _, cg, fg⟩ := (HF.out.bk b K HK.out).row_at hp
      obtain ⟨rfl, rfl⟩ : A = some ⟨g, 0, none⟩ ∧ cap' = cap := by have := E.out.symm.trans e'; simp at this; exact ⟨this.1, this.2.symm⟩
      obtain ⟨d0, d1, df⟩ := (HF.out.pg p _ (bump_at (K.pgs.take k) hP)).reads
      have k1 := df 1
      have hc : (K.pgs.take k).count p ≤ 1000000 := Nat.le_trans List.count_le_length (by rw [List.length_take]; omega)
      have HN := hid (HF.out.toBump HG.out hp hP)
      have hlt' : (k : Int) < K.pgs.length := by omega
      unfold ptr at cg
      clear e' df hp hP
      go_wp2_with fail
      go_roundw
      case rel => exact ⟨k + 1, by omega, by go_num, hid HN.out.1, hid HN.out.2⟩
      case measure => simp [intOf]; omega
    · obtain rfl : k = K.pgs.length := by omega
      have hFe : bumped D K K.pgs.length = { D with pg := bump D.pg K.pgs } := by unfold bumped; rw [List.take_length]
      have hF := HF.out
      have hG := HG.out
      rw [hFe] at hF hG
      obtain ⟨c0, c1, c2, c3, cf⟩ := (hF.bk b K HK.out).reads
      have lb : b < wr.heap.size := (hF.tBk HK.out).lt
      have ho := (hF.bk b K HK.out).row
      rw [E.out] at c1 ho
      have hs := hG.fr.size
      have HF' := hid hF
      have HG' := hid hG
      have LB := hid lb
      have HO := hid (own_move (w1 := wr.drew) ho (fun _ _ => rfl))
      have LS := hid hs
      unfold ptr at c0
      clear hF hG hFe HF HG lb ho hs cf hk hge
      go_wp2_with fail
      go_region_law (refine step_call rfl (f := 117) rfl Try.func117 (by kernel_rfl) rfl #[.slice A K.pgs.length cap] (by simp only [List.map_toArray, List.map_cons, List.map_nil]; rfl) ?_; refine (clonePg_c (w := wr.drew) HO.out hlen).mono ?_; rintro e w2 ⟨v, rfl, hb', ho2⟩; refine ⟨_, rfl, ?_⟩; have hb := below_drew hb'; have y0 := carry hb LB.out c0; have y2 := carry hb LB.out c2; obtain ⟨A2, n2, p2, e2⟩ := own_form ho2; subst e2; have HB := hid hb; have HO2 := hid ho2; clear hb hb' ho2)
      all_goals
        have hE := HF'.out.markEnd HG'.out HB.out HO2.out hB
        clear y0 y2 c0 c1 c2 c3
        go_wp2
        go_ret
        exact ⟨_, _, rfl, hE⟩
end
end Go.Proofs.Ytdgpblhmfkpblaa.Pg
