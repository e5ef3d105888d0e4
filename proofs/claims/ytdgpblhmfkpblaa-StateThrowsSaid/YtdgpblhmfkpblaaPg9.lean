/- Contract of Add. -/
import Derived.Test.YtdgpblhmfkpblaaPg8
import Derived.Deep.AppendLies
import Derived.Deep.RegionLaw
namespace Go.Proofs.Ytdgpblhmfkpblaa.Pg
open Go.RowKit

section
variable {B : Bd} {w : World} {D : FD} {b p : Nat} {K : BkD} {P : PgD}

set_option maxHeartbeats 400000 in
set_option maxRecDepth 100000 in
theorem add_nil (c : CD) (ks vl : Value) (w : World) : Calls Try.prog 85 #[.pointer none, aggC c ks vl] w fun e w' => e = .returned (.tuple #[.int .i64 0, .int .i64 2]) ∧ Below w.heap.size w w' := by
  unfold aggC
  go_enter Try.func85, Try.ntmps85
  go_wp2_with fail
  go_ret2
  exact ⟨rfl, (Below.refl _ _).alloc (Nat.le_refl _) _⟩
set_option maxHeartbeats 400000 in
set_option maxRecDepth 100000 in
theorem add_gone (h : Fam B w D) (hK : D.bk b = some K) (hg : K.gone = true) (c : CD) (ks vl : Value) :
    Calls Try.prog 85 #[ptr b, aggC c ks vl] w fun e w' => e = .returned (.tuple #[.int .i64 0, .int .i64 2]) ∧ Below w.heap.size w w' := by
  obtain ⟨c0, c1, c2, c3, cf⟩ := (h.bk b K hK).reads
  have lb : b < w.heap.size := (h.tBk hK).lt
  rw [hg] at c3
  clear h hK hg cf
  unfold aggC ptr at *
  go_enter Try.func85, Try.ntmps85
  go_wp2_with fail
  go_ret2
  exact ⟨rfl, (Below.refl _ _).alloc (Nat.le_refl _) _⟩
set_option maxHeartbeats 400000 in
set_option maxRecDepth 100000 in
theorem add_full (h : Fam B w D) (hK : D.bk b = some K) (hg : K.gone = false) (hn : 4096 ≤ K.n) (c : CD) (ks vl : Value) :
    Calls Try.prog 85 #[ptr b, aggC c ks vl] w fun e w' => e = .returned (.tuple #[.int .i64 0, .int .i64 6]) ∧ Below w.heap.size w w' := by
  obtain ⟨c0, c1, c2, c3, cf⟩ := (h.bk b K hK).reads
  have lb : b < w.heap.size := (h.tBk hK).lt
  rw [hg] at c3
  have t0 : decide ((4096 : Int) ≤ (K.n : Int)) = true := by simp; omega
  clear h hK hg cf
  unfold aggC ptr at *
  go_enter Try.func85, Try.ntmps85
  go_wp2_with fail
  go_ret2
  exact ⟨rfl, (Below.refl _ _).alloc (Nat.le_refl _) _⟩

theorem grown_page {w1 w2 w3 : World} {o : Obj} {p : Nat} {row : Option Nat} (hb : Below w1.heap.size w1 w2) (hp : p < w1.heap.size) (hg : (w2.alloc o).grownBy w3 row) (hne : some p ≠ row) : w3.heap[p]? = w1.heap[p]? := by
  have h1 := hb.size
  rw [hg.block p (by simp; omega) hne, heap_alloc_old w2 o (by omega), hb.block p hp]

/-- A call of a Go function, as one step of a region that draws. -/
theorem step_call {P : Program} {ops : Array Oper} {o : Oper} {a : Act} {w : World} {K : Act → World → Prop} {Q : Exit → Act → World → Prop} {E : Prop} (hg : o.guard = none) {f : FuncId} {fn : Func} {xs : Array Operand} {ts : Array TypeId}
    (hop : o.op = .call { callee := .value (.func f), args := xs, argTypes := ts }) (hf : P.funcs[f]? = some fn) (hname : (fn.name == "runtime.NumGoroutine") = false) (hb : fn.body.isSome = true) (args : Array Value) (hargs : xs.map a.eval = args)
    (h : Calls P f args w fun e w' => ∃ v, e = .returned v ∧ K (a.put o.dst v) w') : if Region.wanted o (yielded ops a.tmps) = true then Oper.wp P o a w K Q else E := by
  have hw : Region.wanted o (yielded ops a.tmps) = true := by simp [Region.wanted, hg]
  rw [if_pos hw]
  have he : (callFunc f args).run P w = .ok (.enter f args) w := by
    have h1 : fn.name ≠ "runtime.NumGoroutine" := by simpa using hname
    obtain ⟨c, hc⟩ := Option.isSome_iff_exists.1 hb
    simp [callFunc, hf, h1, hc]
  have hrun : (execOp a.eval o).run P w = .ok (.enter f args) w := by
    unfold execOp
    simp [hop, resolve, Deferred.ofValue, invoke, Act.eval, hargs, he]
  unfold Oper.wp
  rw [hrun, Oper.upon_enter]
  refine h.mono fun e w'' hh => ?_
  obtain ⟨v, rfl, hk⟩ := hh
  exact hk

/-- What Add does once the book's last page is its own. -/
def added (D : FD) (b : Nat) (K : BkD) (p : Nat) (P : PgD) (v : Value) (c : CD) : FD :=
  { D with pg := upd D.pg p { P with sl := v, cells := P.cells ++ [c] }, bk := upd D.bk b { K with n := K.n + 1 } }

/-- What is known behind Add on a page that is there. -/
def AddPost (B : Bd) (w : World) (D : FD) (b : Nat) (K : BkD) (p : Nat) (P : PgD) (c : CD) (w' : World) : Prop :=
  ∃ D1 p' P' v, MineRel D b K (K.n / 8) p P D1 p' P' ∧ Fam B w' (added D1 b { K with pgs := K.pgs.set (K.n / 8) p' } p' P' v c) ∧ Goes B w D w' (added D1 b { K with pgs := K.pgs.set (K.n / 8) p' } p' P' v c)

set_option maxHeartbeats 1600000 in
set_option maxRecDepth 100000 in
theorem add_old (h : Fam B w D) (hB : B ≤ w.heap.size) (hK : D.bk b = some K) (hg : K.gone = false) (hn : K.n < 4096) (hm : K.n % 8 ≠ 0) (hp : K.pgs[K.n / 8]? = some p) (hP : D.pg p = some P)
    (hs2 : P.sh ≤ 1000000) (hl0 : 0 ≤ D.live) (hl : D.live ≤ 1000000) (hlen : P.cells.length ≤ 1000000) {c : CD} {ks vl : Value} (hr : Reads B w c ks vl) (hs : c.small) :
    Calls Try.prog 85 #[ptr b, aggC c ks vl] w fun e w' => e = .returned (.tuple #[.int .i64 K.n, .int .i64 0]) ∧ AddPost B w D b K p P c w' := by
  obtain ⟨c0, c1, c2, c3, cf⟩ := (h.bk b K hK).reads
  have lb : b < w.heap.size := (h.tBk hK).lt
  rw [hg] at c3
  have H := hid h
  have HK := hid hK
  have HP := hid hP
  have Hp := hid hp
  have HR := hid hr
  clear h hK hP hp hr hg cf
  have t0 : decide ((4096 : Int) ≤ (K.n : Int)) = false := by simp; omega
  have t1 : ((K.n : Int) % 8 == 0) = false := by rw [beq_eq_false_iff_ne]; omega
  have bW : Below w.heap.size w (w.alloc (.cells #[.int .i64 c.kind, .int .i64 c.a, .int .i64 c.b, ks, vl] 47)) := (Below.refl _ _).alloc (Nat.le_refl _) _
  have r1 := heap_alloc_new w (.cells #[.int .i64 c.kind, .int .i64 c.a, .int .i64 c.b, ks, vl] 47)
  have l1 : w.heap.size < (w.alloc (.cells #[.int .i64 c.kind, .int .i64 c.a, .int .i64 c.b, ks, vl] 47)).heap.size := by simp
  have BW := hid bW
  clear bW
  unfold aggC ptr at *
  go_enter Try.func85, Try.ntmps85
  go_wp2_with fail
  generalize (w.alloc (.cells #[.int .i64 c.kind, .int .i64 c.a, .int .i64 c.b, ks, vl] 47)) = W at BW r1 l1 ⊢
  have Q1 := hid (show ((K.n : Int) / 8).toNat = K.n / 8 by omega)
  refine (mine_c (H.out.below BW.out) (by omega) HK.out (i := (K.n : Int) / 8) (by omega) (by rw [Q1.out]; exact Hp.out) HP.out hs2 hl0 hl hlen).mono ?_
  rintro e w1 ⟨D1, p1, P1, rfl, hm1, hF, hG⟩
  rw [Q1.out] at hm1
  have k1 := hG.keep w.heap.size l1 (fun hf => by have := (H.out.foot_lt hf).1; omega)
  have s1 := hG.fr.size
  have r1' := k1.trans r1
  have hP1 := hm1.at_ HP.out
  have hK1 := hm1.bk HK.out Hp.out
  have hcl := hm1.cells
  have HM := hid hm1
  have HF := hid hF
  have HG := hid hG
  clear c0 c1 c2 c3 t0 t1 r1 k1 hm1 hF hG
  go_wp2_with fail
  have c0 := (cell_of_row w1 _ 0 _ _ _ r1').trans (b := some (Value.int IntKind.i64 c.kind)) rfl
  have c1 := (cell_of_row w1 _ 1 _ _ _ r1').trans (b := some (Value.int IntKind.i64 c.a)) rfl
  have c2 := (cell_of_row w1 _ 2 _ _ _ r1').trans (b := some (Value.int IntKind.i64 c.b)) rfl
  have c3 := (cell_of_row w1 _ 3 _ _ _ r1').trans (b := some ks) rfl
  have c4 := (cell_of_row w1 _ 4 _ _ _ r1').trans (b := some vl) rfl
  obtain ⟨inner, ho, hc⟩ := (HF.out.pg p1 P1 hP1).row
  obtain ⟨d0, _, df⟩ := (HF.out.pg p1 P1 hP1).reads
  have tP := HF.out.tPg hP1
  have lp : p1 < w1.heap.size := tP.lt
  obtain ⟨A0, n0, q0, esl⟩ : ∃ A n c, P1.sl = .slice A n c := by
    rcases ho.2 with ⟨e, _⟩ | ⟨_, _, _, e, _⟩ <;> exact ⟨_, _, _, e⟩
  rw [esl] at d0
  have HO := hid ho
  have HC := hid hc
  have TP := hid tP
  have HP1 := hid hP1
  have HK1 := hid hK1
  have ESL := hid esl
  have HCL := hid hcl
  have LW := hid (show B ≤ W.heap.size by omega)
  have LP := hid lp
  have S1 := hid s1
  have L2 := hid (show B ≤ w1.heap.size by omega)
  have L3 := hid (show P1.cells.length + 1 ≤ maxLen by unfold maxLen; rw [hcl]; omega)
  have L4 := hid (show (P1.cells.length + 1) * 72 ≤ 140737488355328 by rw [hcl]; omega)
  have DF := hid df
  obtain ⟨i0, hi, hz0, hz1, hz2⟩ := info_parts infoCells
  have HI := hid hi
  clear hi r1' ho hc tP hP1 hK1 esl hcl df
  go_region_law (first
    | (refine step_call rfl (f := 109) rfl Try.func109 (by kernel_rfl) rfl #[.agg #[.int .i64 c.kind, .int .i64 c.a, .int .i64 c.b, ks, vl]] (by simp only [List.map_toArray, List.map_cons, List.map_nil]; rfl) ?_; refine (own_calls (B := B) (w := w1.drew) L2.out (by intro k hk; exact HF.out.fresh k hk) ((((HR.out.move (Fr.of_below BW.out))).move (HG.out.fr)).move Fr.drew).k ((((HR.out.move (Fr.of_below BW.out))).move (HG.out.fr)).move Fr.drew).v hs.1 hs.2).mono ?_; rintro e w2 ⟨ks', vl', rfl, hb', hk', hv'⟩; refine ⟨_, rfl, ?_⟩;
       obtain ⟨A1, n1, p1', e1, -⟩ := id hk'; obtain ⟨A2, n2, p2', e2, -⟩ := id hv'; subst e1 e2;
       have hb := below_drew hb'; have y0 := carry hb LP.out d0; have lp2 : p1 < w2.heap.size := Nat.lt_of_lt_of_le LP.out hb.size; have HB := hid hb; have HR' := hid (Reads.mk (c := c) hk' hv'); clear hb hb' hk' hv')
    | (refine step_append_lies _ rfl (.tmp 60) (.tmp 63) 37 rfl B 47 i0 (.agg #[.int .i64 0, .int .i64 0, .int .i64 0, .slice none 0 0, .slice none 0 0]) 5 72 Try.underlying37 HI.out hz0 hz1 hz2 rfl (by decide) P1.sl P1.cells.length inner ?c1 ?c2 ⟨w2.heap.size, 0, none⟩ 1 1 [.int .i64 c.kind, .int .i64 c.a, .int .i64 c.b, .slice A1 n1 p1', .slice A2 n2 p2'] ?c3 rfl ?c4 ?c5 (by decide) L3.out L4.out ?c8 _ rfl ?_;
       (case c1 => rw [ESL.out]; rfl); (case c2 => exact own_move HO.out (fun g hg => (heap_alloc_old _ _ (Nat.lt_of_lt_of_le (own_typ HO.out hg).1.lt HB.out.size)).trans (HB.out.block g (own_typ HO.out hg).1.lt)));
       (case c3 => rfl); (case c4 => exact World.news_of_block (heap_alloc_new _ _)); (case c5 => (intro u hu; simp at hu; rcases hu with rfl | rfl | rfl | rfl | rfl <;> rfl)); (case c8 => (have := L2.out; have := HB.out.size; simp; omega));
       intro g cap w3 ho3 hg3 hgl hlt3;
       have hp3 := grown_page HB.out LP.out hg3 (fun e => absurd (TP.out.uniq (own_typ HO.out e.symm).1) (by decide));
       have m0 : w3.cell? ⟨p1, 0, none⟩ = some (.slice A0 n0 q0) := (World.cell?_of_block (w := w1) (a := ⟨p1, 0, none⟩) hp3).trans d0;
       have m1 : w3.frozen? ⟨p1, 0, none⟩ = false := (World.frozen?_of_block (w := w1) (a := ⟨p1, 0, none⟩) hp3).trans (DF.out 0);
       have HO3 := hid ho3; have HG3 := hid hg3; have HGL := hid hgl; clear ho3 hg3 hgl hlt3 hp3))
  all_goals
    have hA := ((HF.out.below HB.out).below ((Below.refl _ _).alloc (Nat.le_refl _) (.cells #[.int .i64 c.kind, .int .i64 c.a, .int .i64 c.b, .slice A1 n1 p1', .slice A2 n2 p2'] 47))).setCells HP1.out (l := P1.cells ++ [c]) HG3.out (by rw [List.length_append]; exact HO3.out)
      (fun hf => (((HC.out.move (Fr.of_below HB.out)).move (Fr.alloc _)).move hf).append (CellsR.one ⟨_, _, rfl, (((HR'.out.move (Fr.alloc _)).move hf)).k, (((HR'.out.move (Fr.alloc _)).move hf)).v⟩))
      (fun x hx => HGL.out.elim (fun e => .inl (by have : g = x := by simpa [Value.ownBlock] using hx
                                                   rw [← this]; exact e)) (fun e => .inr (by have : g = x := by simpa [Value.ownBlock] using hx
                                                                                             omega)))
    have gA := ((((Goes.below D BW.out).trans HG.out).trans (Goes.below D1 HB.out)).trans (Goes.below D1 ((Below.refl _ _).alloc (Nat.le_refl _) (.cells #[.int .i64 c.kind, .int .i64 c.a, .int .i64 c.b, .slice A1 n1 p1', .slice A2 n2 p2'] 47)))).trans hA.2
    clear m0 m1 y0 c0 c1 c2 c3 c4 d0 
    generalize (w3.setCell ⟨p1, 0, none⟩ (.slice (some ⟨g, 0, none⟩) (P1.cells.length + 1) cap)) = W4 at hA gA ⊢
    obtain ⟨hA, _⟩ := hA
    obtain ⟨c0, c1, c2, c3, cf⟩ := (hA.bk b _ HK1.out).reads
    have f2 := cf 2
    have HA := hid hA
    have GA := hid gA
    clear hA gA cf c0 c1 c3
    go_wp2
    go_ret2
    have hN := HA.out.setN HK1.out (K.n + 1)
    refine ⟨rfl, ?_⟩
    unfold AddPost
    exact ⟨D1, p1, P1, _, HM.out, hN.1, GA.out.trans hN.2⟩
end
end Go.Proofs.Ytdgpblhmfkpblaa.Pg
