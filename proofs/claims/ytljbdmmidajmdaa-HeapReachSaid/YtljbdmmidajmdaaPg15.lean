/- Contract of Drop, of a book that is there. -/
import Derived.Test.YtljbdmmidajmdaaPg14
namespace Go.Proofs.Ytljbdmmidajmdaa.Pg
open Go.RowKit

section
variable {B : Nat} {w : World} {D : FD} {b : Nat} {K : BkD}

set_option maxHeartbeats 1600000 in
set_option maxRecDepth 100000 in
theorem drop_c (h : Fam B w D) (hK : D.bk b = some K) (hg : K.gone = false) (hlen : K.pgs.length ≤ 1000000) (hl0 : 0 ≤ D.live) (hl1 : D.live ≤ 1000000) (hnd : K.pgs.Nodup) (hps : ∀ p ∈ K.pgs, ∃ P, D.pg p = some P ∧ 0 ≤ P.sh ∧ P.sh ≤ 1000000) :
    Calls Try.prog 25 #[ptr b] w fun e w' => e = .returned (.tuple #[]) ∧ Fam B w' (dropped D b K) ∧ Goes B w D w' (dropped D b K) := by
  obtain ⟨c0, c1, c2, c3, cf⟩ := (h.bk b K hK).reads
  rw [hg] at c3
  obtain ⟨A, cap, e, hrow⟩ : ∃ A cap, K.sl = .slice A K.pgs.length cap ∧ (∀ k p, K.pgs[k]? = some p → ∃ g, A = some ⟨g, 0, none⟩) := by
    rcases (h.bk b K hK).row.2 with ⟨e, h0⟩ | ⟨g, cap, cur, e, _⟩
    · exact ⟨none, 0, by rw [h0]; exact e, fun k p hp => by have := (List.getElem?_eq_some_iff.1 hp).1; omega⟩
    · exact ⟨_, _, e, fun _ _ _ => ⟨g, rfl⟩⟩
  rw [e] at c1
  have H := hid h
  have HK := hid hK
  have E := hid e
  have HR := hid hrow
  have HP := hid hps
  have ND := hid hnd
  clear h hK e cf hrow hps hnd
  unfold ptr at *
  go_enter Try.func25, Try.ntmps25
  go_wp2_with fail
  go_loopw [17] (fun i wr => ∃ k : Nat, k ≤ K.pgs.length ∧ i = .int .i64 k ∧ Box (Fam B wr (felled D K k)) ∧ Box (Goes B w D wr (felled D K k))) (fun i _ => K.pgs.length - (intOf i).toNat)
  case atStart =>
    have e0 : felled D K 0 = D := by unfold felled; rw [List.take_zero, fall_nil]; simp
    exact ⟨0, Nat.zero_le _, rfl, hid (by rw [e0]; exact H.out), hid (by rw [e0]; exact Goes.refl _ _ _)⟩
  case round =>
    obtain ⟨k, hk, rfl, HF, HG⟩ := hrel
    clear c0 c1 c2 c3
    rcases Nat.lt_or_ge k K.pgs.length with hlt | hge
    · obtain ⟨p, hp⟩ : ∃ p, K.pgs[k]? = some p := ⟨_, List.getElem?_eq_getElem hlt⟩
      obtain ⟨P, hP, hs0, hs1⟩ := HP.out p (List.mem_of_getElem? hp)
      obtain ⟨g, cap', e', _, cg, fg⟩ := (HF.out.bk b K HK.out).row_at hp
      obtain ⟨rfl, rfl⟩ : A = some ⟨g, 0, none⟩ ∧ cap' = cap := by have := E.out.symm.trans e'; simp at this; exact ⟨this.1, this.2.symm⟩
      have hPk : (felled D K k).pg p = some P := (fall_not (not_before ND.out hp)).trans hP
      obtain ⟨d0, d1, df⟩ := (HF.out.pg p _ hPk).reads
      obtain ⟨f0, ff⟩ := HF.out.reads
      obtain ⟨c0, _, _, _, _⟩ := (HF.out.bk b K HK.out).reads
      have n1 : p ≠ D.fam := typ_ne (HF.out.tPg hPk) HF.out.tFam (by decide)
      have n2 : p ≠ b := typ_ne (HF.out.tPg hPk) (HF.out.tBk HK.out) (by decide)
      have n3 : D.fam ≠ p := fun e => n1 e.symm
      have n4 : b ≠ p := fun e => n2 e.symm
      have k1 := df 1
      have k2 := ff 0
      have hlt' : (k : Int) < K.pgs.length := by omega
      have hcount : (K.pgs.take k).countP (lone D.pg) ≤ 1000000 := Nat.le_trans List.countP_le_length (by rw [List.length_take]; omega)
      obtain ⟨L, hL, hL0, hL1⟩ : ∃ L, (felled D K k).live = L ∧ -1000000 ≤ L ∧ L ≤ 1000000 := ⟨_, rfl, by unfold felled; simp only []; omega, by unfold felled; simp only []; omega⟩
      have f0' : wr.cell? ⟨D.fam, 0, none⟩ = some (.int .i64 L) := by rw [← hL]; exact f0
      have c0' : wr.cell? ⟨b, 0, none⟩ = some (.pointer (some ⟨D.fam, 0, none⟩)) := c0
      have k2' : wr.frozen? ⟨D.fam, 0, none⟩ = false := k2
      unfold ptr at cg
      by_cases hs : P.sh = 1
      · have HN := hid (HF.out.fell_last HG.out ND.out hp hP hs)
        rw [hL] at HN
        have t0 : (P.sh - 1 == 0) = true := by simp [hs]
        rw [hs] at HN d1
        clear e' df ff hp hP hPk f0 c0 k2 hL t0 hs hs0 hs1
        go_wp2_with fail
        go_roundw
        case rel => exact ⟨k + 1, by omega, by go_num, hid HN.out.1, hid HN.out.2⟩
        case measure => simp [intOf]; omega
      · have HN := hid (HF.out.fell_more HG.out ND.out hp hP hs)
        have t0 : (P.sh - 1 == 0) = false := by simp; omega
        clear e' df ff hp hP hPk f0 c0 k2 hL
        go_wp2_with fail
        go_roundw
        case rel => exact ⟨k + 1, by omega, by go_num, hid HN.out.1, hid HN.out.2⟩
        case measure => simp [intOf]; omega
    · obtain rfl : k = K.pgs.length := by omega
      have hE := HF.out.toGone HK.out
      have hG := HG.out.trans hE.2
      have hF := hE.1
      have hFe : ({ felled D K K.pgs.length with bk := upd (felled D K K.pgs.length).bk b { sl := .slice none 0 0, pgs := [], n := 0, gone := true } } : FD) = dropped D b K := by unfold felled dropped; rw [List.take_length]
      rw [hFe] at hF hG
      obtain ⟨c0, c1, c2, c3, cf⟩ := (HF.out.bk b K HK.out).reads
      have k1 := cf 1
      have k2 := cf 2
      have k3 := cf 3
      have hF := hid hF
      have hG := hid hG
      clear HF HG cf hk hge hFe hE
      go_wp2_with fail
      go_end0
      exact ⟨rfl, hF.out, hG.out⟩
end
end Go.Proofs.Ytljbdmmidajmdaa.Pg
