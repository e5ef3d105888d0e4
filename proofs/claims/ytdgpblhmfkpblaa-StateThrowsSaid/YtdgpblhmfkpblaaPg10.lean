/- Contract of Add, where a page more is needed. -/
import Derived.Test.YtdgpblhmfkpblaaPg9
namespace Go.Proofs.Ytdgpblhmfkpblaa.Pg
open Go.RowKit

section
variable {B : Bd} {w : World} {D : FD} {b p : Nat} {K : BkD} {P : PgD}

/-- A page more, without cells yet. -/
def paged (D : FD) (b : Nat) (K : BkD) (q : Nat) (v : Value) : FD :=
  { D with live := D.live + 1, pg := upd D.pg q { sl := .slice none 0 0, cells := [], sh := 1 }, bk := upd D.bk b { K with sl := v, pgs := K.pgs ++ [q] } }
/-- What is known behind Add on a page more. -/
def AddNew (B : Bd) (w : World) (D : FD) (b : Nat) (K : BkD) (c : CD) (w' : World) : Prop :=
  ∃ q v v', w.heap.size ≤ q ∧ D.pg q = none ∧ Fam B w' (added (paged D b K q v) b { K with sl := v, pgs := K.pgs ++ [q] } q { sl := .slice none 0 0, cells := [], sh := 1 } v' c) ∧
    Goes B w D w' (added (paged D b K q v) b { K with sl := v, pgs := K.pgs ++ [q] } q { sl := .slice none 0 0, cells := [], sh := 1 } v' c)

theorem grown_old {w1 w3 : World} {o o' : Obj} {p : Nat} {row : Option Nat} (hp : p < w1.heap.size) (hg : ((w1.alloc o).alloc o').grownBy w3 row) (hne : some p ≠ row) : w3.heap[p]? = w1.heap[p]? := by
  rw [hg.block p (by simp; omega) hne, heap_alloc_old _ _ (by simp; omega), heap_alloc_old _ _ hp]

theorem Fam.paged (h : Fam B w D) (hB : B ≤ w.heap.size) (hK : D.bk b = some K) (o1 o3 : Obj) {w3 : World} {g cap H : Nat}
    (ho3 : w3.ownsRow B 167 1 (.slice (some ⟨g, 0, none⟩) (K.pgs.length + 1) cap) (K.pgs.length + 1) (K.pgs.map ptr ++ [ptr (w.heap.size + 1)]))
    (hg3 : (((w.alloc o1).alloc (.cells #[.slice none 0 0, .int .i64 1] 166)).alloc o3).grownBy w3 K.sl.ownBlock) (hH : (((w.alloc o1).alloc (.cells #[.slice none 0 0, .int .i64 1] 166)).alloc o3).heap.size = H) (hgl : K.sl.ownBlock = some g ∨ g = H) :
    Fam B ((w3.setCell ⟨b, 1, none⟩ (.slice (some ⟨g, 0, none⟩) (K.pgs.length + 1) cap)).setCell ⟨D.fam, 0, none⟩ (.int .i64 (D.live + 1))) (paged D b K (w.heap.size + 1) (.slice (some ⟨g, 0, none⟩) (K.pgs.length + 1) cap)) ∧
    Goes B (w.alloc o1) D ((w3.setCell ⟨b, 1, none⟩ (.slice (some ⟨g, 0, none⟩) (K.pgs.length + 1) cap)).setCell ⟨D.fam, 0, none⟩ (.int .i64 (D.live + 1))) (paged D b K (w.heap.size + 1) (.slice (some ⟨g, 0, none⟩) (K.pgs.length + 1) cap)) := by
  have b1 : Below w.heap.size w (w.alloc o1) := (Below.refl _ _).alloc (Nat.le_refl _) _
  have e1 : (w.alloc o1).heap.size = w.heap.size + 1 := by simp
  have h1 := h.below b1
  have hp := h1.addPage (v := .slice none 0 0) (l := []) (inner := []) 1 (by omega) ⟨rfl, .inl ⟨rfl, rfl⟩⟩ rfl (fun k P g _ _ e => by simp [Value.ownBlock] at e)
  have b2 : Below (w.alloc o1).heap.size (w.alloc o1) ((w.alloc o1).alloc (.cells #[.slice none 0 0, .int .i64 1] 166)) := (Below.refl _ _).alloc (Nat.le_refl _) _
  rw [e1] at hp
  have g2 : Goes B (w.alloc o1) D ((w.alloc o1).alloc (.cells #[.slice none 0 0, .int .i64 1] 166)) { D with pg := upd D.pg (w.heap.size + 1) { sl := .slice none 0 0, cells := [], sh := 1 } } :=
    ⟨Fr.alloc _, fun k hk _ => b2.block k hk, fun k hk => (hp.2 k hk).elim .inl (fun e => e.elim (fun e => .inr (by omega)) (fun e => by simp [Value.ownBlock] at e))⟩
  have b3 : Below ((w.alloc o1).alloc (.cells #[.slice none 0 0, .int .i64 1] 166)).heap.size ((w.alloc o1).alloc (.cells #[.slice none 0 0, .int .i64 1] 166)) (((w.alloc o1).alloc (.cells #[.slice none 0 0, .int .i64 1] 166)).alloc o3) := (Below.refl _ _).alloc (Nat.le_refl _) _
  have h3 := hp.1.below b3
  have g3 := Goes.below (B := B) { D with pg := upd D.pg (w.heap.size + 1) { sl := .slice none 0 0, cells := [], sh := 1 } } b3
  have h4 := h3.setPages (b := b) (K := K) hK (v := .slice (some ⟨g, 0, none⟩) (K.pgs.length + 1) cap) (ps := K.pgs ++ [w.heap.size + 1]) hg3 (by simpa using ho3)
    (fun x hx => by
      have : g = x := by simpa [Value.ownBlock] using hx
      subst this
      exact hgl.elim .inl (fun e => .inr (by omega)))
  have h5 := h4.1.setLive (D.live + 1)
  exact ⟨h5.1, ((g2.trans g3).trans h4.2).trans h5.2⟩

theorem third_new (w : World) (o1 o2 o3 : Obj) : (((w.alloc o1).alloc o2).alloc o3).heap[w.heap.size + 1 + 1]? = some o3 := by
  have h := heap_alloc_new ((w.alloc o1).alloc o2) o3
  have e : ((w.alloc o1).alloc o2).heap.size = w.heap.size + 1 + 1 := by simp
  rwa [e] at h

set_option maxHeartbeats 1600000 in
set_option maxRecDepth 100000 in
theorem add_new (h : Fam B w D) (hB : B ≤ w.heap.size) (hK : D.bk b = some K) (hg : K.gone = false) (hn : K.n < 4096) (hm : K.n % 8 = 0) (hlen : K.pgs.length = K.n / 8)
    (hl0 : 0 ≤ D.live) (hl : D.live ≤ 1000000) {c : CD} {ks vl : Value} (hr : Reads B w c ks vl) (hs : c.small) :
    Calls Try.prog 85 #[ptr b, aggC c ks vl] w fun e w' => e = .returned (.tuple #[.int .i64 K.n, .int .i64 0]) ∧ AddNew B w D b K c w' := by
  obtain ⟨c0, c1, c2, c3, cf⟩ := (h.bk b K hK).reads
  obtain ⟨f0, ff⟩ := h.reads
  have lb : b < w.heap.size := (h.tBk hK).lt
  have lF : D.fam < w.heap.size := h.tFam.lt
  have ho := (h.bk b K hK).row
  obtain ⟨Ak, nk, qk, esk⟩ : ∃ A n c, K.sl = .slice A n c := by
    rcases ho.2 with ⟨e, _⟩ | ⟨_, _, _, e, _⟩ <;> exact ⟨_, _, _, e⟩
  have qF : D.pg (w.heap.size + 1) = none := by
    cases hq : D.pg (w.heap.size + 1) with
    | none => rfl
    | some X => have := (h.tPg hq).lt; omega
  rw [hg] at c3
  rw [esk] at c1
  have H := hid h
  have HK := hid hK
  have HR := hid hr
  have HOK := hid ho
  have ESK := hid esk
  have QF0 := hid qF
  have CF := hid cf
  have FF := hid ff
  have LN := hid hlen
  clear h hK hr hg ho esk qF cf ff hlen
  have t0 : decide ((4096 : Int) ≤ (K.n : Int)) = false := by simp; omega
  have t1 : ((K.n : Int) % 8 == 0) = true := by rw [beq_iff_eq]; omega
  have bW : Below w.heap.size w (w.alloc (.cells #[.int .i64 c.kind, .int .i64 c.a, .int .i64 c.b, ks, vl] 47)) := (Below.refl _ _).alloc (Nat.le_refl _) _
  have r1 := heap_alloc_new w (.cells #[.int .i64 c.kind, .int .i64 c.a, .int .i64 c.b, ks, vl] 47)
  have l1 : w.heap.size < (w.alloc (.cells #[.int .i64 c.kind, .int .i64 c.a, .int .i64 c.b, ks, vl] 47)).heap.size := by simp
  have eWs : (w.alloc (.cells #[.int .i64 c.kind, .int .i64 c.a, .int .i64 c.b, ks, vl] 47)).heap.size = (w.heap.size + 1) := by simp
  have BW := hid bW
  have EWS := hid eWs
  clear bW eWs
  obtain ⟨i1, hi1, hy0, hy1, hy2⟩ := info_parts infoPg
  have HI1 := hid hi1
  have L5 := hid (show K.pgs.length + 1 ≤ maxLen by unfold maxLen; rw [LN.out]; omega)
  have L6 := hid (show (K.pgs.length + 1) * 8 ≤ 140737488355328 by rw [LN.out]; omega)
  clear hi1
  have LB1 := hid (Nat.lt_trans lb l1)
  have LF1 := hid (Nat.lt_trans lF l1)
  unfold ptr at c0
  unfold aggC ptr
  go_enter Try.func85, Try.ntmps85
  go_wp2_with (first | (at_builtin; refine wpList_append_lies _ rfl (.tmp 32) (.tmp 35) 169 rfl B 167 i1 (.pointer none) 1 8 Try.underlying169 HI1.out hy0 hy1 hy2 rfl (by decide) K.sl K.pgs.length (K.pgs.map ptr) ?c1 ?c2 ⟨w.heap.size + 1 + 1, 0, none⟩ 1 1 [ptr (w.heap.size + 1)] ?c3 rfl ?c4 ?c5 (by decide) L5.out L6.out ?c8 _ rfl ?_; (case c1 => rw [ESK.out]; rfl); (case c2 => exact ((HOK.out.alloc _).alloc _).alloc _); (case c3 => rfl); (case c4 => exact World.news_of_block (third_new _ _ _ _)); (case c5 => exact fun u hu => by rw [List.mem_singleton.1 hu]; rfl); (case c8 => (simp; omega)); intro g cap w3 ho3 hg3 hgl hlt3; have hb3 := grown_old (w1 := (w.alloc (.cells #[.int .i64 c.kind, .int .i64 c.a, .int .i64 c.b, ks, vl] 47))) (p := b) (LB1.out) hg3 (fun e => absurd ((H.out.tBk HK.out).uniq (own_typ HOK.out e.symm).1) (by decide)); have hF3 := grown_old (w1 := (w.alloc (.cells #[.int .i64 c.kind, .int .i64 c.a, .int .i64 c.b, ks, vl] 47))) (p := D.fam) (LF1.out) hg3 (fun e => absurd (H.out.tFam.uniq (own_typ HOK.out e.symm).1) (by decide)); have hb4 := hb3.trans (heap_alloc_old w _ lb); have hF4 := hF3.trans (heap_alloc_old w _ lF); have b0 := (World.cell?_of_block (w := w) (a := ⟨b, 0, none⟩) hb4).trans c0; have b1 := (World.cell?_of_block (w := w) (a := ⟨b, 1, none⟩) hb4).trans c1; have b2 := (World.cell?_of_block (w := w) (a := ⟨b, 2, none⟩) hb4).trans c2; have e0 := (World.cell?_of_block (w := w) (a := ⟨D.fam, 0, none⟩) hF4).trans f0; have k1 := (World.frozen?_of_block (w := w) (a := ⟨b, 1, none⟩) hb4).trans (CF.out 1); have k0 := (World.frozen?_of_block (w := w) (a := ⟨D.fam, 0, none⟩) hF4).trans (FF.out 0); have nbF : b ≠ D.fam := typ_ne (H.out.tBk HK.out) H.out.tFam (by decide); have HO3 := hid ho3; have HG3 := hid hg3; have HGL := hid hgl; clear ho3 hg3 hgl hlt3 hb3 hF3 hb4 hF4))
  have hPg := H.out.paged hB HK.out (.cells #[.int .i64 c.kind, .int .i64 c.a, .int .i64 c.b, ks, vl] 47) (.cells #[.pointer (some ⟨w.heap.size + 1, 0, none⟩)] 167) HO3.out HG3.out rfl HGL.out
  clear b0 b1 b2 e0 k1 k0 c0 c1 c2 c3 f0 HO3 HG3 HGL
  obtain ⟨hF, hG⟩ := hPg
  generalize ((w3.setCell ⟨b, 1, none⟩ (.slice (some ⟨g, 0, none⟩) (K.pgs.length + 1) cap)).setCell ⟨D.fam, 0, none⟩ (.int .i64 (D.live + 1))) = w1 at hF hG ⊢
  have hvs : ∃ v, v = Value.slice (some ⟨g, 0, none⟩) (K.pgs.length + 1) cap := ⟨_, rfl⟩
  obtain ⟨v, ev⟩ := hvs
  rw [← ev] at hF hG
  have hK1 : (paged D b K (w.heap.size + 1) v).bk b = some { K with sl := v, pgs := K.pgs ++ [w.heap.size + 1] } := upd_same _ _ _
  have hP1 : (paged D b K (w.heap.size + 1) v).pg (w.heap.size + 1) = some { sl := .slice none 0 0, cells := [], sh := 1 } := upd_same _ _ _
  refine (mine_one hF hK1 (i := (K.n : Int) / 8) (by omega) (p := w.heap.size + 1) (by rw [show ((K.n : Int) / 8).toNat = K.pgs.length by rw [LN.out]; omega]; simp) hP1 (by decide)).mono ?_
  rintro e w1 ⟨rfl, rfl⟩
  generalize hD1 : paged D b K (w.heap.size + 1) v = D1 at hF hG hK1 hP1
  have HD1 := hid hD1
  clear hD1
  generalize hP1e : ({ sl := .slice none 0 0, cells := [], sh := 1 } : PgD) = P1 at hP1
  have hcl : P1.cells.length = 0 := by rw [← hP1e]; rfl
  have HPE := hid hP1e
  clear hP1e
  have HEV := hid ev
  clear ev
  have k1 := hG.keep w.heap.size l1 (fun hf => by have := (H.out.foot_lt hf).1; omega)
  have s1 := hG.fr.size
  have r1' := k1.trans r1
  have HF := hid hF
  have HG := hid hG
  generalize (w.alloc (.cells #[.int .i64 c.kind, .int .i64 c.a, .int .i64 c.b, ks, vl] 47)) = W at BW r1 l1 s1 EWS LB1 LF1 HG
  generalize hq : w.heap.size + 1 = p1 at hK1 hP1 HD1 QF0 ⊢
  have HQ := hid hq
  clear hq k1 t0 t1 r1 LF1 LB1 EWS LN
  unfold ptr
  go_wp2_with fail
  have c0 := (cell_of_row w1 _ 0 _ _ _ r1').trans (b := some (Value.int IntKind.i64 c.kind)) rfl
  have c1 := (cell_of_row w1 _ 1 _ _ _ r1').trans (b := some (Value.int IntKind.i64 c.a)) rfl
  have c2 := (cell_of_row w1 _ 2 _ _ _ r1').trans (b := some (Value.int IntKind.i64 c.b)) rfl
  have c3 := (cell_of_row w1 _ 3 _ _ _ r1').trans (b := some ks) rfl
  have c4 := (cell_of_row w1 _ 4 _ _ _ r1').trans (b := some vl) rfl
  obtain ⟨inner, ho, hc⟩ := (HF.out.pg p1 P1 hP1).row
  obtain ⟨d0, _, df⟩ := (HF.out.pg p1 P1 hP1).reads
  have tP := HF.out.tPg hP1
  have lp : p1 < w1.heap.size := tP.lt
  obtain ⟨A0, n0, q0, esl⟩ : ∃ A n c, P1.sl = .slice A n c := by
    rcases ho.2 with ⟨e, _⟩ | ⟨_, _, _, e, _⟩ <;> exact ⟨_, _, _, e⟩
  rw [esl] at d0
  have HO := hid ho
  have HC := hid hc
  have TP := hid tP
  have HP1 := hid hP1
  have HK1 := hid hK1
  have ESL := hid esl
  have LW := hid (show B ≤ W.heap.size by omega)
  have LP := hid lp
  have S1 := hid s1
  have L2 := hid (show B ≤ w1.heap.size by omega)
  have L3 := hid (show P1.cells.length + 1 ≤ maxLen by unfold maxLen; omega)
  have L4 := hid (show (P1.cells.length + 1) * 72 ≤ 140737488355328 by omega)
  have DF := hid df
  obtain ⟨i0, hi, hz0, hz1, hz2⟩ := info_parts infoCells
  have HI := hid hi
  clear hi r1' ho hc tP hP1 hK1 esl df hcl
  go_region_law (first
    | (refine step_call rfl (f := 109) rfl Try.func109 (by kernel_rfl) rfl #[.agg #[.int .i64 c.kind, .int .i64 c.a, .int .i64 c.b, ks, vl]] (by simp only [List.map_toArray, List.map_cons, List.map_nil]; rfl) ?_; refine (own_calls (B := B) (w := w1.drew) L2.out (by intro k hk; exact HF.out.fresh k hk) ((((HR.out.move (Fr.of_below BW.out))).move (HG.out.fr)).move Fr.drew).k ((((HR.out.move (Fr.of_below BW.out))).move (HG.out.fr)).move Fr.drew).v hs.1 hs.2).mono ?_; rintro e w2 ⟨ks', vl', rfl, hb', hk', hv'⟩; refine ⟨_, rfl, ?_⟩;
       obtain ⟨A1, n1, p1', e1, -⟩ := id hk'; obtain ⟨A2, n2, p2', e2, -⟩ := id hv'; subst e1 e2;
       have hb := below_drew hb'; have y0 := carry hb LP.out d0; have lp2 : p1 < w2.heap.size := Nat.lt_of_lt_of_le LP.out hb.size; have HB := hid hb; have HR' := hid (Reads.mk (c := c) hk' hv'); clear hb hb' hk' hv')
    | (refine step_append_lies _ rfl (.tmp 60) (.tmp 63) 37 rfl B 47 i0 (.agg #[.int .i64 0, .int .i64 0, .int .i64 0, .slice none 0 0, .slice none 0 0]) 5 72 Try.underlying37 HI.out hz0 hz1 hz2 rfl (by decide) P1.sl P1.cells.length inner ?c1 ?c2 ⟨w2.heap.size, 0, none⟩ 1 1 [.int .i64 c.kind, .int .i64 c.a, .int .i64 c.b, .slice A1 n1 p1', .slice A2 n2 p2'] ?c3 rfl ?c4 ?c5 (by decide) L3.out L4.out ?c8 _ rfl ?_;
       (case c1 => rw [ESL.out]; rfl); (case c2 => exact own_move HO.out (fun g hg => (heap_alloc_old _ _ (Nat.lt_of_lt_of_le (own_typ HO.out hg).1.lt HB.out.size)).trans (HB.out.block g (own_typ HO.out hg).1.lt)));
       (case c3 => rfl); (case c4 => exact World.news_of_block (heap_alloc_new _ _)); (case c5 => (intro u hu; simp at hu; rcases hu with rfl | rfl | rfl | rfl | rfl <;> rfl)); (case c8 => (have := L2.out; have := HB.out.size; simp; omega));
       intro g cap w3 ho3 hg3 hgl hlt3;
       have hp3 := grown_page HB.out LP.out hg3 (fun e => absurd (TP.out.uniq (own_typ HO.out e.symm).1) (by decide));
       have m0 : w3.cell? ⟨p1, 0, none⟩ = some (.slice A0 n0 q0) := (World.cell?_of_block (w := w1) (a := ⟨p1, 0, none⟩) hp3).trans d0;
       have m1 : w3.frozen? ⟨p1, 0, none⟩ = false := (World.frozen?_of_block (w := w1) (a := ⟨p1, 0, none⟩) hp3).trans (DF.out 0);
       have HO3 := hid ho3; have HG3 := hid hg3; have HGL := hid hgl; clear ho3 hg3 hgl hlt3 hp3))
  all_goals
    have hA := ((HF.out.below HB.out).below ((Below.refl _ _).alloc (Nat.le_refl _) (.cells #[.int .i64 c.kind, .int .i64 c.a, .int .i64 c.b, .slice A1 n1 p1', .slice A2 n2 p2'] 47))).setCells HP1.out (l := P1.cells ++ [c]) HG3.out (by rw [List.length_append]; exact HO3.out)
      (fun hf => (((HC.out.move (Fr.of_below HB.out)).move (Fr.alloc _)).move hf).append (CellsR.one ⟨_, _, rfl, (((HR'.out.move (Fr.alloc _)).move hf)).k, (((HR'.out.move (Fr.alloc _)).move hf)).v⟩))
      (fun x hx => HGL.out.elim (fun e => .inl (by have : g = x := by simpa [Value.ownBlock] using hx
                                                   rw [← this]; exact e)) (fun e => .inr (by have : g = x := by simpa [Value.ownBlock] using hx
                                                                                             omega)))
    have gA := ((((Goes.below D BW.out).trans HG.out).trans (Goes.below D1 HB.out)).trans (Goes.below D1 ((Below.refl _ _).alloc (Nat.le_refl _) (.cells #[.int .i64 c.kind, .int .i64 c.a, .int .i64 c.b, .slice A1 n1 p1', .slice A2 n2 p2'] 47)))).trans hA.2
    clear m0 m1 y0 c0 c1 c2 c3 c4 d0 
    generalize (w3.setCell ⟨p1, 0, none⟩ (.slice (some ⟨g, 0, none⟩) (P1.cells.length + 1) cap)) = W4 at hA gA ⊢
    obtain ⟨hA, _⟩ := hA
    obtain ⟨c0, c1, c2, c3, cf⟩ := (hA.bk b _ HK1.out).reads
    replace c2 : W4.cell? ⟨b, 2, none⟩ = some (.int .i64 (K.n : Int)) := c2
    have f2 := cf 2
    have HA := hid hA
    have GA := hid gA
    clear hA gA cf c0 c1 c3
    go_wp2
    go_ret2
    have hN := HA.out.setN HK1.out (K.n + 1)
    refine ⟨rfl, ?_⟩
    unfold AddNew
    have e1 := HD1.out
    have e2 := HPE.out
    have hn1 := hN.1
    have hg1 := GA.out.trans hN.2
    subst e1 e2
    exact ⟨p1, v, _, Nat.le_of_succ_le (Nat.le_of_eq HQ.out), QF0.out, hn1, hg1⟩
end
end Go.Proofs.Ytdgpblhmfkpblaa.Pg
