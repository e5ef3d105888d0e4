/- Make, Wait. -/
import Derived.Test.YtdgpblhmfkpblaaSt12
namespace Go.Proofs.Ytdgpblhmfkpblaa.Pg
open Go.RowKit

def promC : CD := ⟨5, 0, 0, [], []⟩
section
variable {B B' : Bd} {w w' : World} {G G' : SG} {P P' : PS} {D D' : FD}
set_option maxHeartbeats 400000 in
set_option maxRecDepth 100000 in
theorem make_nil (w : World) : Calls Try.prog 30 #[.pointer none] w fun e w' => e = .returned (.tuple #[.int .i64 0, .int .i64 2]) ∧ w' = w := by
  go_enter Try.func30, Try.ntmps30
  go_wp2_with fail
  go_ret2
  exact ⟨rfl, rfl⟩
set_option maxHeartbeats 400000 in
set_option maxRecDepth 100000 in
theorem make_c (h : St1 B w D G P) (hn : P.cells.length < 4096) : Calls Try.prog 30 #[ptr G.at_] w fun e w' => e = .returned (.tuple #[.int .i64 ((P.cells.length : Nat) + 1), .int .i64 0]) ∧ Next1 B w D G w' { P with cells := P.cells ++ [promC] } := by
  have c0 := h.ok.c (k := 0) (u := ptr G.hp) rfl
  have H := hid h
  clear h
  unfold ptr at *
  go_enter Try.func30, Try.ntmps30
  go_wp2_with fail
  refine (H.out.h.alloc H.out.le (by simp) H.out.hp H.out.cells hn (c := promC) (noReads 5 0 0) (noSmall 5 0 0)).mono ?_
  rintro e w2 ⟨rfl, D', hH, hG⟩
  have HN := hid (H.out.goes hH hG)
  clear hH hG c0
  go_wp2_with fail
  go_ret2
  exact ⟨rfl, HN.out⟩

theorem RowR.void {sz sz' : Nat} {v : Value} (h : RowR B w sz v []) : RowR B' w' sz' v [] := by
  obtain ⟨A, n, cap, h1, h2, h3, h4, h5, h6⟩ := h
  exact ⟨A, n, cap, h1, h2, h3, h4, h5, fun h0 => absurd h2 (by simp; omega)⟩
/-- Wait, of one that waits. -/
def waitC (c : CD) (f g : VD) (child : Int) : CD := { c with vals := c.vals ++ [f, g, numV child] }
set_option maxHeartbeats 1600000 in
set_option maxRecDepth 100000 in
theorem wait_waits (h : St1 B w D G P) {p : Int} (hp1 : 1 ≤ p) (hp2 : p ≤ 1000000) {c : CD} (hc : P.cells[(p - 1).toNat]? = some c) (ha : c.a = 0) (hv : c.vals.length ≤ 100000) (hk : c.keys = []) (f g : VD) (child : Int) :
    Calls Try.prog 35 #[ptr G.at_, .int .i64 p, f.agg, g.agg, .int .i64 child] w fun e w' => e = .returned (.tuple #[]) ∧ Next1 B w D G w' { P with cells := P.cells.set (p - 1).toNat (waitC c f g child) } := by
  obtain ⟨i0, hi, hz0, hz1, hz2⟩ := info_parts infoVal
  have HI := hid hi
  have HA := hid ha
  clear ha
  have hbW : Below w.heap.size w ((w.alloc (.cells #[.int .i64 f.kind, .int .i64 f.n, .string f.s] 33)).alloc (.cells #[.int .i64 g.kind, .int .i64 g.n, .string g.s] 33)) := ((Below.refl _ _).alloc (Nat.le_refl _) _).alloc (by go_size) _
  have r0 : ((w.alloc (.cells #[.int .i64 f.kind, .int .i64 f.n, .string f.s] 33)).alloc (.cells #[.int .i64 g.kind, .int .i64 g.n, .string g.s] 33)).heap[w.heap.size]? = some (.cells #[.int .i64 f.kind, .int .i64 f.n, .string f.s] 33 (0, 0)) := by
    rw [heap_alloc_old _ _ (by go_size), heap_alloc_new]
  have r1 := heap_alloc_new (w.alloc (.cells #[.int .i64 f.kind, .int .i64 f.n, .string f.s] 33)) (.cells #[.int .i64 g.kind, .int .i64 g.n, .string g.s] 33)
  rw [show (w.alloc (.cells #[.int .i64 f.kind, .int .i64 f.n, .string f.s] 33)).heap.size = w.heap.size + 1 by go_size] at r1
  have hsz : ((w.alloc (.cells #[.int .i64 f.kind, .int .i64 f.n, .string f.s] 33)).alloc (.cells #[.int .i64 g.kind, .int .i64 g.n, .string g.s] 33)).heap.size = w.heap.size + 2 := by go_size
  have H := hid (h.below hbW)
  have BW := hid hbW
  unfold ptr VD.agg
  clear hbW hi
  go_enter Try.func35, Try.ntmps35
  go_upto_region 1 with fail
  generalize ((w.alloc (.cells #[.int .i64 f.kind, .int .i64 f.n, .string f.s] 33)).alloc (.cells #[.int .i64 g.kind, .int .i64 g.n, .string g.s] 33)) = W at H BW r0 r1 hsz ⊢
  have c0 := H.out.ok.c (k := 0) (u := ptr G.hp) rfl
  unfold ptr at c0
  go_wp2_with fail
  refine (H.out.h.loadO H.out.le H.out.hp H.out.cells hp1 hp2 hc).mono ?_
  rintro e w1 ⟨A1, n1, p1, A2, n2, p2, rfl, hb1, hr1, ho1⟩
  have hbC := (Below.refl w1.heap.size w1).alloc (Nat.le_refl _) (.cells #[.int .i64 c.kind, .int .i64 c.a, .int .i64 c.b, .slice A1 n1 p1, .slice A2 n2 p2] 47)
  have hs1 := hb1.size
  have rC := heap_alloc_new w1 (.cells #[.int .i64 c.kind, .int .i64 c.a, .int .i64 c.b, .slice A1 n1 p1, .slice A2 n2 p2] 47)
  have hb2 := hb1.trans (hbC.mono hs1)
  have r0' := (hb2.block _ (by omega)).trans r0
  have r1' := (hb2.block _ (by omega)).trans r1
  have hO := ho1.alloc (.cells #[.int .i64 c.kind, .int .i64 c.a, .int .i64 c.b, .slice A1 n1 p1, .slice A2 n2 p2] 47)
  have hR := hr1.move (Fr.of_below hbC)
  have hn2 : n2 = c.vals.length := by have := hr1.v.get.1; rw [List.length_map] at this; exact this.symm
  have hs2 : (w1.alloc (.cells #[.int .i64 c.kind, .int .i64 c.a, .int .i64 c.b, .slice A1 n1 p1, .slice A2 n2 p2] 47)).heap.size = w1.heap.size + 1 := by go_size
  subst hn2
  go_upto_region 3 with fail
  have HB2 := hid hb2
  have HO := hid hO
  have HR := hid hR
  have H2 := hid (H.out.below hb2)
  clear hb1 hr1 ho1 hbC hb2 hO hR r0 r1 c0
  generalize (w1.alloc (.cells #[.int .i64 c.kind, .int .i64 c.a, .int .i64 c.b, .slice A1 n1 p1, .slice A2 c.vals.length p2] 47)) = W2 at HB2 HO HR H2 rC r0' r1' hs2 ⊢
  have hB2 : W.heap.size ≤ W2.heap.size := HB2.out.size
  have y0 := (cell_of_row _ _ 0 _ _ _ rC).trans (b := some (Value.int .i64 c.kind)) rfl
  have y1 := (cell_of_row _ _ 1 _ _ _ rC).trans (b := some (Value.int .i64 c.a)) rfl
  have y2 := (cell_of_row _ _ 2 _ _ _ rC).trans (b := some (Value.int .i64 c.b)) rfl
  have y3 := (cell_of_row _ _ 3 _ _ _ rC).trans (b := some (Value.slice A1 n1 p1)) rfl
  have y4 := (cell_of_row _ _ 4 _ _ _ rC).trans (b := some (Value.slice A2 c.vals.length p2)) rfl
  have f0 := (cell_of_row _ _ 0 _ _ _ r0').trans (b := some (Value.int .i64 f.kind)) rfl
  have f1 := (cell_of_row _ _ 1 _ _ _ r0').trans (b := some (Value.int .i64 f.n)) rfl
  have f2 := (cell_of_row _ _ 2 _ _ _ r0').trans (b := some (Value.string f.s)) rfl
  have g0 := (cell_of_row _ _ 0 _ _ _ r1').trans (b := some (Value.int .i64 g.kind)) rfl
  have g1 := (cell_of_row _ _ 1 _ _ _ r1').trans (b := some (Value.int .i64 g.n)) rfl
  have g2 := (cell_of_row _ _ 2 _ _ _ r1').trans (b := some (Value.string g.s)) rfl
  have fz : W2.frozen? ⟨w1.heap.size, 4, none⟩ = false := by simp [World.frozen?, rC]
  have hw0 : w.heap.size < W2.heap.size := by omega
  have hw1 : w.heap.size + 1 < W2.heap.size := by omega
  have hw2 : w1.heap.size < W2.heap.size := by omega
  have TC := hid (Typ.of rC)
  have RC := hid rC
  have e1 : (c.a == 0) = true := by rw [HA.out]; rfl
  have HS2 := hid hs2
  have HS1 := hid (show W.heap.size ≤ w1.heap.size by omega)
  clear rC r0' r1' hs2 hsz hs1
  go_upto_region 5 with fail
  clear e1
  go_region_law (first
    | (refine step_call rfl (f := 74) rfl Try.func74 (by kernel_rfl) rfl #[.int .i64 child] (by simp only [List.map_toArray, List.map_cons, List.map_nil]; rfl) ?_; refine (pnum_c _ child).mono ?_; rintro e w3 ⟨rfl, hb'⟩; refine ⟨_, rfl, ?_⟩; unfold VD.agg numV; have hb := below_drew hb';
       have yy4 := carry hb hw2 y4; have ff0 := carry hb hw0 f0; have ff1 := carry hb hw0 f1; have ff2 := carry hb hw0 f2; have gg0 := carry hb hw1 g0; have gg1 := carry hb hw1 g1; have gg2 := carry hb hw1 g2; have fzz := carryF hb hw2 fz;
       have HB3 := hid hb; have hw3 : w1.heap.size < w3.heap.size := Nat.lt_of_lt_of_le hw2 hb.size; have hw30 : w.heap.size < w3.heap.size := Nat.lt_of_lt_of_le hw0 hb.size; have hw31 : w.heap.size + 1 < w3.heap.size := Nat.lt_of_lt_of_le hw1 hb.size; clear hb hb')
    | (refine step_append_lies _ (by rfl) (.tmp 31) (.tmp 36) 31 (by rfl) W.heap.size 33 i0 (.agg #[.int .i64 0, .int .i64 0, .string ByteArray.empty]) 3 32 Try.underlying31 HI.out hz0 hz1 hz2 rfl (by decide) (.slice A2 c.vals.length p2) c.vals.length (c.vals.map VD.row).flatten ?c1 ?c2 ⟨w3.heap.size, 0, none⟩ 3 3 [.int .i64 f.kind, .int .i64 f.n, .string f.s, .int .i64 g.kind, .int .i64 g.n, .string g.s, .int .i64 3, .int .i64 child, .string ByteArray.empty] ?c3 rfl ?c4 ?c5 (by decide) ?c6 ?c7 ?c8 _ rfl ?_;
       (case c1 => rfl); (case c2 => exact own_move HO.out (fun g hg => (heap_alloc_old _ _ (Nat.lt_of_lt_of_le (own_typ HO.out hg).1.lt HB3.out.size)).trans (HB3.out.block g (own_typ HO.out hg).1.lt))); (case c3 => rfl); (case c4 => exact World.news_of_block (heap_alloc_new _ _)); (case c5 => simp [Value.oneCell']); (case c6 => unfold maxLen; omega); (case c7 => omega); (case c8 => (have := HB3.out.size; simp; omega));
       intro g5 cap5 w5 ho5 hg5 hgl5 hlt5;
       have hoN : (w3.alloc (.cells #[.int .i64 f.kind, .int .i64 f.n, .string f.s, .int .i64 g.kind, .int .i64 g.n, .string g.s, .int .i64 3, .int .i64 child, .string ByteArray.empty] 33)).ownsRow W.heap.size 33 3 (.slice A2 c.vals.length p2) c.vals.length (c.vals.map VD.row).flatten := own_move HO.out (fun g hg => (heap_alloc_old _ _ (Nat.lt_of_lt_of_le (own_typ HO.out hg).1.lt HB3.out.size)).trans (HB3.out.block g (own_typ HO.out hg).1.lt));
       have hpC : (w3.alloc (.cells #[.int .i64 f.kind, .int .i64 f.n, .string f.s, .int .i64 g.kind, .int .i64 g.n, .string g.s, .int .i64 3, .int .i64 child, .string ByteArray.empty] 33)).heap[w1.heap.size]? = W2.heap[w1.heap.size]? := (heap_alloc_old _ _ hw3).trans (HB3.out.block _ hw2);
       have hp5 : w5.heap[w1.heap.size]? = W2.heap[w1.heap.size]? := (hg5.block _ (by go_size) (fun e => absurd ((own_typ hoN e.symm).1.uniq (TC.out.move hpC)) (by decide))).trans hpC;
       have hb5 : Below W.heap.size W w5 := (((HB2.out.trans (HB3.out.mono hB2)).alloc (by have := HB3.out.size; omega) (.cells #[.int .i64 f.kind, .int .i64 f.n, .string f.s, .int .i64 g.kind, .int .i64 g.n, .string g.s, .int .i64 3, .int .i64 child, .string ByteArray.empty] 33)).grown hg5 (by have := HB3.out.size; go_size) (fun k hk => (own_typ hoN hk).2));
       have m0 : w5.cell? ⟨w1.heap.size, 4, none⟩ = some (.slice A2 c.vals.length p2) := (World.cell?_of_block (w := W2) (a := ⟨w1.heap.size, 4, none⟩) hp5).trans y4;
       have m1 : w5.frozen? ⟨w1.heap.size, 4, none⟩ = false := (World.frozen?_of_block (w := W2) (a := ⟨w1.heap.size, 4, none⟩) hp5).trans fz;
       have HO5 := hid ho5; have HP5 := hid hp5; have HB5 := hid hb5; clear ho5 hg5 hgl5 hlt5 hp5 hb5 hoN hpC))
  all_goals
    have hb6 : Below W.heap.size W (w5.setCell ⟨w1.heap.size, 4, none⟩ (.slice (some ⟨g5, 0, none⟩) (c.vals.length + 3) cap5)) := HB5.out.setCell (by exact HS1.out) _
    have rC := (set_at (HP5.out.trans RC.out) (.slice (some ⟨g5, 0, none⟩) (c.vals.length + 3) cap5) (i := 4))
    have hne : w1.heap.size ≠ g5 := fun e => by
      have h1 := (own_typ HO5.out (k := g5) rfl).1
      rw [← e] at h1
      exact absurd (h1.uniq (TC.out.move HP5.out)) (by decide)
    have hO6 : (w5.setCell ⟨w1.heap.size, 4, none⟩ (.slice (some ⟨g5, 0, none⟩) (c.vals.length + 3) cap5)).ownsRow W.heap.size 33 3 (.slice (some ⟨g5, 0, none⟩) (c.vals.length + 3) cap5) (c.vals.length + 3) ((waitC c f g child).vals.map VD.row).flatten := by
      have := own_move (w1 := w5.setCell ⟨w1.heap.size, 4, none⟩ (.slice (some ⟨g5, 0, none⟩) (c.vals.length + 3) cap5)) HO5.out (fun k hk => set_ne _ (fun e => hne (by have hk' : g5 = k := by simpa [Value.ownBlock] using hk
                                                                                                                                                                         omega)))
      simpa [waitC, VD.row, numV] using this
    have HO6 := hid hO6
    have H6 := hid (H.out.below hb6)
    have HB6 := hid hb6
    clear m0 m1 y0 y1 y2 y3 y4 f0 f1 f2 g0 g1 g2 fz hb6 hO6 yy4 ff0 ff1 ff2 gg0 gg1 gg2 fzz hw3 hw30 hw31 hw0 hw1 hw2
    generalize (w5.setCell ⟨w1.heap.size, 4, none⟩ (.slice (some ⟨g5, 0, none⟩) (c.vals.length + 3) cap5)) = W6 at HO6 H6 HB6 rC ⊢
    have y0 := (cell_of_row _ _ 0 _ _ _ rC).trans (b := some (Value.int .i64 c.kind)) rfl
    have y1 := (cell_of_row _ _ 1 _ _ _ rC).trans (b := some (Value.int .i64 c.a)) rfl
    have y2 := (cell_of_row _ _ 2 _ _ _ rC).trans (b := some (Value.int .i64 c.b)) rfl
    have y3 := (cell_of_row _ _ 3 _ _ _ rC).trans (b := some (Value.slice A1 n1 p1)) rfl
    have y4 := (cell_of_row _ _ 4 _ _ _ rC).trans (b := some (Value.slice (some ⟨g5, 0, none⟩) (c.vals.length + 3) cap5)) rfl
    have c0 := H6.out.ok.c (k := 0) (u := ptr G.hp) rfl
    unfold ptr at c0
    clear rC
    have hlt := (List.getElem?_eq_some_iff.1 hc).1
    have HRds := hid (show Reads B W6.drew (waitC c f g child) (.slice A1 n1 p1) (.slice (some ⟨g5, 0, none⟩) (c.vals.length + 3) cap5) from
      ⟨by have := HR.out.k; rw [hk] at this; exact (show RowR B W6.drew 1 (.slice A1 n1 p1) ((waitC c f g child).keys.map keyRow) by rw [show (waitC c f g child).keys = [] from hk]; exact this.void), RowR.of_own HO6.out (by decide) (fun k hk => H.out.h.fam.fresh k hk) VD.row_len (by simp [waitC])⟩)
    go_wp2_with fail
    go_still_tail 6, (by kernel_rfl)
    change wpList _ _ _ _ _ W6.drew
    go_wp2_with fail
    refine ((H6.out.below (Below.refl _ _).drew).h.store (c := waitC c f g child) H6.out.le (by simp) H6.out.hp H6.out.cells hp1 hp2 hlt HRds.out ⟨by simp [waitC, hk], by simp [waitC]; omega⟩).mono ?_
    rintro e w7 ⟨rfl, D', hH, hG⟩
    have HN := hid (Next1.pre BW.out (Next1.pre HB6.out (Next1.pre (Below.refl _ _).drew ((H6.out.below (Below.refl _ _).drew).goes hH hG))))
    clear hH hG
    go_wp2_with fail
    exact bodyPost_end (results_none rfl _ _ _) rfl ⟨rfl, HN.out⟩
end
end Go.Proofs.Ytdgpblhmfkpblaa.Pg
