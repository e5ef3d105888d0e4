/- The document's Mark. -/
import Derived.Test.YtljbdmmidajmdaaPg47
namespace Go.Proofs.Ytljbdmmidajmdaa.Pg
open Go.RowKit
attribute [local go_sem ↓] Go.wp_at_zero Go.wp_at_succ

theorem infoRB : (Try.prog.info? 47).map (fun i => (i.zero, i.size, i.bytes)) = some (some (.agg #[.slice none 0 0, .slice none 0 0, .bool false]), 3, 56) := by kernel_rfl

section
variable {B : Nat} {w w' W w1 : World} {D : FD} {fb g g1 cap cap1 next b o o1 : Nat} {R : List RB} {x : RB}
theorem RBk.turn2 (h : RBk B w D g o x) (hf : Fr B w w') (hk : ∀ k, k < w.heap.size → (Typ w k 31 ∨ Typ w k 3) → w'.heap[k]? = w.heap[k]?) (hg : ∀ j u, j < 3 → w.cell? ⟨g, o + j, none⟩ = some u → w'.cell? ⟨g1, o1 + j, none⟩ = some u) : RBk B w' D g1 o1 x := by
  obtain ⟨A, cap, A', cap', h0, h1, h2, h3, h4, h5, h6, h7, h8, h9, h10, h11, h12⟩ := h.ex
  have k1 : ∀ y, A = some y → w'.heap[y.block]? = w.heap[y.block]? := fun y hy => by obtain ⟨q1, q2, q3, q4⟩ := h7 y hy; exact hk _ q2 q4
  have k2 : ∀ y, A' = some y → w'.heap[y.block]? = w.heap[y.block]? := fun y hy => by obtain ⟨q1, q2, q3, q4⟩ := h12 y hy; exact hk _ q2 q4
  exact ⟨⟨A, cap, A', cap', hg 0 _ (by omega) h0, hg 1 _ (by omega) h1, hg 2 _ (by omega) h2, h3, h4, h5, h6.turn hf k1, h7.turn hf.size k1 (fun y hy => (h7 y hy).2.2.1), h8, h9, h10, h11.turn k2, h12.turn hf.size k2 (fun y hy => (h12 y hy).2.2.1)⟩⟩
theorem RF.marked (h : RF B w D fb g cap R next) (hF : Fam B w D) (hb : R[b]? = some x) {inner : List Value} (ho : w.ownsRow B 47 3 (.slice (some ⟨g, 0, none⟩) R.length cap) R.length inner)
    (hW : Below w.heap.size w W) (hg : W.grownBy w1 (some g)) {v0 v1 v2 : Value} (hO : w1.ownsRow B 47 3 (.slice (some ⟨g1, 0, none⟩) (R.length + 1) cap1) (R.length + 1) (inner ++ [v0, v1, v2]))
    (hat : g = g1 ∨ g1 = W.heap.size) (d0 : w.cell? ⟨g, b * 3, none⟩ = some v0) (d1 : w.cell? ⟨g, b * 3 + 1, none⟩ = some v1) (d2 : w.cell? ⟨g, b * 3 + 2, none⟩ = some v2) :
    RF B (w1.setCell ⟨fb, 0, none⟩ (.slice (some ⟨g1, 0, none⟩) (R.length + 1) cap1)) D fb g1 cap1 (R ++ [x]) next ∧ RGo B w (w1.setCell ⟨fb, 0, none⟩ (.slice (some ⟨g1, 0, none⟩) (R.length + 1) cap1)) fb g := by
  have tf := Typ.of h.cell
  have tg := h.gtyp
  have hfl := tf.lt
  have hgl := tg.1.lt
  have keep : ∀ k, k < w.heap.size → k ≠ g → w1.heap[k]? = w.heap[k]? := fun k hk hne => (hg.block k (Nat.lt_of_lt_of_le hk hW.size) (fun e => hne (by simpa using e))).trans (hW.block k hk)
  have hfg : fb ≠ g := typ_ne tf tg.1 (by decide)
  have cell1 : w1.heap[fb]? = _ := (keep fb hfl hfg).trans h.cell
  have t1 := own_typ hO (k := g1) rfl
  have hg1f : g1 ≠ fb := typ_ne t1.1 (Typ.of cell1) (by decide)
  have fr1 : Fr B w w1 := ⟨hg.os.trans hW.os, hg.tape.trans hW.tape, hg.output.trans hW.output, Nat.le_trans hW.size hg.size, fun k hk => keep k hk.1 (fun e => by
    subst e
    rcases hk.2 with q | ⟨cs, fr, T, q, hT⟩
    · have := tg.2; omega
    · have := tg.1.uniq (Typ.of q)
      subst this
      revert hT
      decide)⟩
  have hG : RGo B w (w1.setCell ⟨fb, 0, none⟩ (.slice (some ⟨g1, 0, none⟩) (R.length + 1) cap1)) fb g :=
    ⟨fr1.trans (Fr.set (p := ⟨fb, 0, none⟩) _ (Typ.of cell1) (by decide) (by decide) h.base), fun k hk h1 h2 => (set_ne _ h1).trans (keep k hk h2)⟩
  have cells1 : ∀ j u, (inner ++ [v0, v1, v2])[j]? = some u → (w1.setCell ⟨fb, 0, none⟩ (.slice (some ⟨g1, 0, none⟩) (R.length + 1) cap1)).cell? ⟨g1, j, none⟩ = some u := fun j u hj => by
    have := hO.cells (g := g1) rfl j u hj
    rw [show (⟨g1, 0, none⟩ : Addr).add j = ⟨g1, j, none⟩ by unfold Addr.add; split <;> simp_all] at this
    exact (World.cell?_of_block (a := ⟨g1, j, none⟩) (set_ne _ hg1f)).trans this
  have hin : ∀ j u, j < R.length * 3 → w.cell? ⟨g, j, none⟩ = some u → inner[j]? = some u := fun j u hj hc => by
    have hl := ho.1
    have hlt : j < inner.length := by omega
    have h1 := ho.cells (g := g) rfl j _ (List.getElem?_eq_getElem hlt)
    rw [show (⟨g, 0, none⟩ : Addr).add j = ⟨g, j, none⟩ by unfold Addr.add; split <;> simp_all] at h1
    rw [List.getElem?_eq_getElem hlt, ← h1]
    exact hc
  have hkk : ∀ k, k < w.heap.size → (Typ w k 31 ∨ Typ w k 3) → (w1.setCell ⟨fb, 0, none⟩ (.slice (some ⟨g1, 0, none⟩) (R.length + 1) cap1)).heap[k]? = w.heap[k]? := fun k hk q => hG.keep k hk (fun e => by
    subst e
    exact q.elim (fun t => typ_ne t tf (by decide) rfl) (fun t => typ_ne t tf (by decide) rfl)) (fun e => by
    subst e
    exact q.elim (fun t => typ_ne t tg.1 (by decide) rfl) (fun t => typ_ne t tg.1 (by decide) rfl))
  have hil := ho.1
  have hblt := (List.getElem?_eq_some_iff.1 hb).1
  refine ⟨⟨h.base, h.no, ?_, ⟨inner ++ [v0, v1, v2], ?_⟩, ?_, fun i y hy => ?_⟩, hG⟩
  · rw [List.length_append]
    exact (set_at cell1 _).trans rfl
  · rw [List.length_append]
    exact own_move hO (fun k hk => by
      obtain rfl : g1 = k := by simpa [Value.ownBlock] using hk
      exact set_ne _ hg1f)
  · rcases hat with rfl | e
    · exact h.norow
    · intro hf
      have := (hF.foot_lt hf).1
      have := hW.size
      omega
  · rcases Nat.lt_or_ge i R.length with hi | hi
    · rw [List.getElem?_append_left hi] at hy
      exact (h.bk i y hy).turn2 hG.fr hkk (fun j u hj hc => cells1 _ _ (by rw [List.getElem?_append_left (by omega)]; exact hin _ _ (by omega) hc))
    · rw [List.getElem?_append_right hi] at hy
      have hi0 := (List.getElem?_eq_some_iff.1 hy).1
      simp only [List.length_cons, List.length_nil] at hi0
      obtain rfl : i = R.length := by omega
      simp at hy
      subst hy
      refine (h.bk b x hb).turn2 hG.fr hkk (fun j u hj hc => cells1 _ _ ?_)
      rw [List.getElem?_append_right (by omega), hil, show R.length * 3 + j - R.length * 3 = j by omega]
      rcases (by omega : j = 0 ∨ j = 1 ∨ j = 2) with rfl | rfl | rfl
      · rw [Nat.add_zero, d0] at hc; exact hc
      · rw [d1] at hc; exact hc
      · rw [d2] at hc; exact hc
end

set_option maxHeartbeats 3200000 in
set_option maxRecDepth 100000 in
theorem rmark_c {B : Nat} {w : World} {D : FD} {fb g cap next b : Nat} {R : List RB} {x : RB} (h : RF B w D fb g cap R next) (hF : Fam B w D) (hB : B ≤ w.heap.size) (hb : R[b]? = some x) (hR : R.length ≤ 1000) :
    Calls Try.prog 24 #[.pointer (some ⟨fb, 0, none⟩), .int .i64 b] w fun e w' => e = .returned (.tuple #[]) ∧ ∃ g1 cap1, RF B w' D fb g1 cap1 (R ++ [x]) next ∧ RGo B w w' fb g := by
  obtain ⟨A, p, A', p', d0, d1, d2, -⟩ := h.at_ hb
  have c0 := h.c0
  have hbl := (List.getElem?_eq_some_iff.1 hb).1
  have hm := h.small
  unfold maxLen at hm
  have hbl' : (b : Int) < (R.length : Nat) := by omega
  have hb0' : (0 : Int) ≤ b := by omega
  obtain ⟨i0, hi, hz0, hz1, hz2⟩ := info_parts infoRB
  have HI := hid hi
  obtain ⟨inner, ho⟩ := h.row
  have HOwn := hid (show ((w.alloc (.cells #[.slice A x.cells.length p, .slice A' x.pgs.length p', .bool x.gone] 47)).drew).ownsRow B 47 3 (.slice (some ⟨g, 0, none⟩) R.length cap) R.length inner from ho.alloc _)
  have HNews := hid (World.news_of_block (show ((w.alloc (.cells #[.slice A x.cells.length p, .slice A' x.pgs.length p', .bool x.gone] 47)).drew).heap[w.heap.size]? = some (.cells #[.slice A x.cells.length p, .slice A' x.pgs.length p', .bool x.gone] 47 (0, 0)) from heap_alloc_new w _))
  have hin : ∀ j u, j < 3 → w.cell? ⟨g, b * 3 + j, none⟩ = some u → inner[b * 3 + j]? = some u := fun j u hj hc => by
    have hl := ho.1
    have hlt : b * 3 + j < inner.length := by omega
    have h1 := ho.cells (g := g) rfl (b * 3 + j) _ (List.getElem?_eq_getElem hlt)
    rw [show (⟨g, 0, none⟩ : Addr).add (b * 3 + j) = ⟨g, b * 3 + j, none⟩ by unfold Addr.add; split <;> simp_all] at h1
    rw [List.getElem?_eq_getElem hlt, ← h1]
    exact hc
  have HI0 := hid (hin 0 _ (by omega) d0)
  have HI1 := hid (hin 1 _ (by omega) d1)
  have HI2 := hid (hin 2 _ (by omega) d2)
  have hgf : g ≠ fb := typ_ne h.gtyp.1 (Typ.of h.cell) (by decide)
  have HFZ := hid (h.frozen 0).2
  have HS := hid (show B ≤ ((w.alloc (.cells #[.slice A x.cells.length p, .slice A' x.pgs.length p', .bool x.gone] 47)).drew).heap.size by simp; omega)
  have H := hid h
  have HOo := hid ho
  have HBb := hid hb
  have HD := hid (And.intro d0 (And.intro d1 d2))
  have HF := hid hF
  have HWb := hid (((Below.refl w.heap.size w).alloc (Nat.le_refl _) (.cells #[.slice A x.cells.length p, .slice A' x.pgs.length p', .bool x.gone] 47)).drew)
  have n0 := World.new_ne w _ c0
  have n1 := World.new_ne w _ d0
  have HFB := hid (show fb < ((w.alloc (.cells #[.slice A x.cells.length p, .slice A' x.pgs.length p', .bool x.gone] 47)).drew).heap.size by have := (Array.getElem?_eq_some_iff.1 h.cell).1; simp; omega)
  have HC0 := hid (show ((w.alloc (.cells #[.slice A x.cells.length p, .slice A' x.pgs.length p', .bool x.gone] 47)).drew).heap[fb]? = some (.cells #[.slice (some ⟨g, 0, none⟩) R.length cap, .int .i64 (next : Nat)] 50 (0, 0)) from (heap_alloc_old w _ (Array.getElem?_eq_some_iff.1 h.cell).1).trans h.cell)
  have e0 := (show ((w.alloc (.cells #[.slice A x.cells.length p, .slice A' x.pgs.length p', .bool x.gone] 47)).drew).cell? ⟨fb, 0, none⟩ = some (.slice (some ⟨g, 0, none⟩) R.length cap) from cell_of_row _ _ 0 _ _ _ HC0.out)
  clear h hb hi ho hin hF
  go_enter Try.func24, Try.ntmps24
  go_wp2_with fail
  go_region_law
    ((refine step_append_old _ (by rfl) _ _ _ (by rfl) B 47 i0 (.agg #[.slice none 0 0, .slice none 0 0, .bool false]) 3 56 Try.underlying48 HI.out hz0 hz1 hz2 rfl (by decide) g R.length cap inner (by rfl) HOwn.out ⟨w.heap.size, 0, none⟩ 1 1 [.slice A x.cells.length p, .slice A' x.pgs.length p', .bool x.gone] (by rfl) rfl HNews.out (by simp [Value.oneCell']) (by decide) (by unfold maxLen; omega) (by omega) HS.out ?_; intro g1 cap1 w1 hown hgrow hat hlt hold; have k1 := hold _ _ HI0.out; have k2 := hold _ _ HI1.out; have k3 := hold _ _ HI2.out; rw [Nat.add_zero] at k1; have kh := (hgrow.block fb HFB.out (fun e => hgf (by simpa using e.symm))).trans HC0.out; have k0 := cell_of_row _ _ 0 _ _ _ kh; have kf := frozen_of_row _ _ 0 _ _ kh; have HG := hid hgrow; have HO := hid hown; have HA := hid hat; clear hgrow hown hat hlt hold kh))
  all_goals exact bodyPost_end (results_none rfl _ _ _) rfl ⟨rfl, g1, cap1, H.out.marked HF.out HBb.out HOo.out HWb.out HG.out HO.out HA.out HD.out.1 HD.out.2.1 HD.out.2.2⟩
end Go.Proofs.Ytljbdmmidajmdaa.Pg
