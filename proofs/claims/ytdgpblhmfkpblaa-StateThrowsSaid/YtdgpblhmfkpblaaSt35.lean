/- Throw. -/
import Derived.Test.YtdgpblhmfkpblaaSt34
namespace Go.Proofs.Ytdgpblhmfkpblaa.Pg
open Go.RowKit

section
variable {B B' : Bd} {w w' : World} {G G' : SG} {P P' : PS} {D D' : FD} {hs : List Nat} {L : List (Option (List CD))} {i : Nat}
/-- A block made for the call's own, that may turn. -/
theorem Sta.room (h : Sta B w D hs L i G P) (hb : Below w.heap.size w w') {b : Nat} (h1 : w.heap.size ≤ b) (h2 : b < w'.heap.size) : Sta (B.plus b) w' D hs L i G P ∧ SMv B w D G (B.plus b) w' D G := by
  have hE : Ext B (B.plus b) w.heap.size := Ext.plusOr (.inr h1)
  refine h.turn hE (Fr.of_below hb) (fun k hk _ => hb.block k hk) ?_ (h.ok.keep hE (Fr.of_below hb) (fun k hk => hb.block k (h.ok.foot_lt hk).1)) rfl rfl rfl rfl (fun k hk => .inl hk)
  rintro k (hk | rfl)
  · exact Nat.lt_of_lt_of_le (h.h.fam.fresh k hk) hb.size
  · exact h2
theorem Sta.freeSet (h : Sta B w D hs L i G P) {b o : Nat} {u : Value} (hX : B.X b) (hT : Typ w b 33) (hf : ¬ Foot D b) (hs' : ¬ SFoot G b) (hB : B ≤ b) : Sta B (w.setCell ⟨b, o, none⟩ u) D hs L i G P := by
  have hfr : Fr B w (w.setCell ⟨b, o, none⟩ u) := Fr.setX _ hX hB
  refine ⟨h.h.raise (Ext.refl _ _) hfr (fun k _ hF => set_ne _ (fun e => ?_)) (fun k hk => ?_), h.hp, h.cells, h.ok.keep (Ext.refl _ _) hfr (fun k hk => set_ne _ (fun e => hs' (e ▸ hk)))⟩
  · subst e
    exact hF.elim hf (fun hm => absurd ((h.h.typ hm).uniq hT) (by decide))
  · have := h.h.fam.fresh k hk
    simpa using this
theorem SMv.freeSet {B0 : Bd} {w0 : World} {D0 : FD} {G0 : SG} (h : SMv B0 w0 D0 G0 B w D G) {b o : Nat} {u : Value} (hb : w0.heap.size ≤ b) : SMv B0 w0 D0 G0 B (w.setCell ⟨b, o, none⟩ u) D G :=
  ⟨h.ext, ⟨h.fr.os, h.fr.tape, h.fr.output, by simpa using h.fr.size, fun k hk => (set_ne _ (by have := hk.1; omega)).trans (h.fr.imm k hk)⟩, fun k hk h1 h2 => (set_ne _ (by omega)).trans (h.keep k hk h1 h2), h.foot, h.sfoot, h.at_, h.hp, h.funs⟩

theorem Sta.free3 (h : Sta B w D hs L i G P) {b : Nat} (u0 u1 u2 : Value) (hX : B.X b) (hT : Typ w b 33) (hf : ¬ Foot D b) (hs' : ¬ SFoot G b) (hB : B ≤ b) : Sta B (((w.setCell ⟨b, 0, none⟩ u0).setCell ⟨b, 1, none⟩ u1).setCell ⟨b, 2, none⟩ u2) D hs L i G P := by
  have t : ∀ {x : World} {o : Nat} {u : Value}, Typ x b 33 → Typ (x.setCell ⟨b, o, none⟩ u) b 33 := fun ht => by obtain ⟨cs, fr, e⟩ := ht; exact Typ.of (set_at e _)
  exact ((h.freeSet hX hT hf hs' hB).freeSet hX (t hT) hf hs' hB).freeSet hX (t (t hT)) hf hs' hB
section
variable {w1 : World}
/-- Some of a frame's values, and one more. -/
theorem Sta.pushCut (h : Sta B w D hs L i G P) {l : List VD} {j g n cap gv nv capv : Nat} {F : FrD} {c : List Value} {x : VD} (hg : G.fsl = .slice (some ⟨g, 0, none⟩) n cap) (hc : G.rows[j]? = some c) (hF : P.frames[j]? = some F) (hn : l.length = nv)
    (ho : w1.ownsRow B 33 3 (.slice (some ⟨gv, 0, none⟩) (nv + 1) capv) (nv + 1) ((l.map VD.row).flatten ++ x.row)) (hgr : w.grownBy w1 (valsOf c).ownBlock) (hgl : (valsOf c).ownBlock = some gv ∨ gv = w.heap.size) (hlt : gv < w1.heap.size) :
    Sta (B.plus gv) (w1.setCell ⟨g, j * 9 + 6, none⟩ (.slice (some ⟨gv, 0, none⟩) (nv + 1) capv)) D hs L i { G with rows := G.rows.set j (c.set 6 (.slice (some ⟨gv, 0, none⟩) (nv + 1) capv)) } { P with frames := P.frames.set j { F with vals := l ++ [x] } } ∧
      SMv B w D G (B.plus gv) (w1.setCell ⟨g, j * 9 + 6, none⟩ (.slice (some ⟨gv, 0, none⟩) (nv + 1) capv)) D { G with rows := G.rows.set j (c.set 6 (.slice (some ⟨gv, 0, none⟩) (nv + 1) capv)) } := by
  have hgo : G.fsl.ownBlock = some g := by rw [hg]; rfl
  have ht := h.ok.fr.typ hgo
  have hX := h.ok.row j F c hF hc
  have hne : (valsOf c).ownBlock ≠ some g := fun e => absurd ((hX.vals.typ e).1.uniq ht.1) (by decide)
  have hg1 : w1.heap[g]? = w.heap[g]? := hgr.block _ ht.1.lt (fun e => hne e.symm)
  have hE : Ext B (B.plus gv) w.heap.size := Ext.plusOr (hgl.imp (hX.vals.X gv) (fun e => by omega))
  have hf1 : Fr B w w1 := fr_grownX hX.vals.own (Nat.le_refl _) hX.vals.X hgr
  have hf : Fr B w (w1.setCell ⟨g, j * 9 + 6, none⟩ (.slice (some ⟨gv, 0, none⟩) (nv + 1) capv)) := hf1.trans (Fr.setX _ (h.ok.fr.X g hgo) ht.2)
  have hr := h.ok.fr.keep (B' := B.plus gv) (w' := w1) hE (fun k hk => hgr.block _ (h.ok.fr.typ hk).1.lt (fun e => by rw [hgo] at hk; injection hk with hk; exact hne (by rw [hk]; exact e.symm)))
  rw [hg] at hr
  have hgg : gv ≠ g := fun e => absurd ((own_typ ho (k := gv) rfl).1.uniq (by rw [e]; exact ht.1.move hg1)) (by decide)
  refine h.setFrame hc hE ?_ hf ?_ (by rw [hg]; exact xr_cellSet hr hc (by decide) _) ?_ ?_
  · rintro k (hk | rfl)
    · have := h.h.fam.fresh k hk
      have := hgr.size
      simp; omega
    · simpa using hlt
  · exact fun k hk h1 h2 => (set_ne _ (fun e => h1 (by rw [e]; exact hgo))).trans (hgr.block k hk (fun e => h2 e.symm))
  · obtain ⟨v, t, e, hv, ht'⟩ := hX
    refine ⟨.slice (some ⟨gv, 0, none⟩) (nv + 1) capv, t, by rw [e]; rfl, ⟨?_, ?_, VD.row_len⟩, (ht'.raise hE (Nat.le_refl _)).move (hf.raise hE)⟩
    · refine own_base (own_move (w := w1) ?_ (fun k hk => set_ne _ (fun e => ?_))) hE.hn.symm
      · simp only [List.map_append, List.map_cons, List.map_nil, List.length_append, List.length_map, List.length_cons, List.length_nil, List.flatten_append, List.flatten_cons, List.flatten_nil, List.append_nil, hn]; exact ho
      · have hk' : gv = k := by simpa [Value.ownBlock] using hk
        exact hgg (hk'.trans e)
    · exact fun k hk => .inr (by simpa [Value.ownBlock] using hk.symm)
  · intro k hk
    have hv : valsOf (c.set 6 (.slice (some ⟨gv, 0, none⟩) (nv + 1) capv)) = .slice (some ⟨gv, 0, none⟩) (nv + 1) capv := by
      obtain ⟨v, t, e, _⟩ := hX
      rw [e]; rfl
    rw [hv] at hk
    have hk' : gv = k := by simpa [Value.ownBlock] using hk
    subst hk'
    exact hgl.imp id (fun e => by omega)
end
theorem rowR_cap {sz n cap : Nat} {A : Option Addr} {xs : List (List Value)} (h : RowR B w sz (.slice A n cap) xs) : n ≤ cap := by
  obtain ⟨A', n', cap', e, _, h2, _⟩ := h
  injection e with e1 e2 e3
  subst e1 e2 e3
  exact h2
def tryTo (F : FrD) (ts : List TrD) (t : TrD) (v : VD) : FrD := { F with tries := ts, vals := F.vals.take t.vals.toNat ++ [v], pc := t.pc, scope := t.scope }
def PS.throw (v : VD) : Nat → PS → PS × Bool
  | 0, P => (P, true)
  | m + 1, P => match P.frames[m]? with
    | none => (P, true)
    | some F => match F.tries.reverse with
      | t :: ts => ({ P with frames := P.frames.set m (tryTo F ts.reverse t v) }, false)
      | [] => PS.throw v m { P.over F.gen with frames := P.frames.take m }
def ThrowRes (v : VD) (r : PS × Bool) : Value := .tuple #[(if r.2 then v else undefV).agg, .bool r.2]
structure PS.thr (P : PS) : Prop where
  cells : P.cells.length ≤ 4096
  frames : P.frames.length ≤ 100000
  fr : ∀ F ∈ P.frames, (F.gen = 0 ∨ (1 ≤ F.gen ∧ F.gen ≤ (P.cells.length : Nat))) ∧ F.vals.length ≤ 100000 ∧ F.tries.length ≤ 100000 ∧ ∀ t ∈ F.tries, 0 ≤ t.vals ∧ t.vals ≤ 1000000
theorem PS.thr.less (h : P.thr) (g : Int) (m : Nat) : PS.thr { P.over g with frames := P.frames.take m } :=
  ⟨by show (P.over g).cells.length ≤ 4096; rw [PS.over_length]; exact h.cells, by show (P.frames.take m).length ≤ 100000; rw [List.length_take]; have := h.frames; omega,
    fun F hF => by have := h.fr F (List.mem_of_mem_take hF); show (F.gen = 0 ∨ (1 ≤ F.gen ∧ F.gen ≤ ((P.over g).cells.length : Nat))) ∧ _; rw [PS.over_length]; exact this⟩
theorem FrX.pcSet {F : FrD} {c : List Value} (h : FrX B w F c) (x : Int) : FrX B w { F with pc := x } (c.set 1 (.int .i64 x)) := by
  obtain ⟨v, t, e, h1, h2⟩ := h
  exact ⟨v, t, by rw [e]; rfl, h1, h2⟩
theorem FrX.scSet {F : FrD} {c : List Value} (h : FrX B w F c) (x : Int) : FrX B w { F with scope := x } (c.set 2 (.int .i64 x)) := by
  obtain ⟨v, t, e, h1, h2⟩ := h
  exact ⟨v, t, by rw [e]; rfl, h1, h2⟩
theorem valsOf_set {c : List Value} {k : Nat} {u : Value} (hk : k ≠ 6) : valsOf (c.set k u) = valsOf c := by
  unfold valsOf
  rw [List.getD_eq_getElem?_getD, List.getD_eq_getElem?_getD, List.getElem?_set_ne hk]
def fptr (g m : Nat) : Value := if m = 0 then .pointer none else .pointer (some ⟨g, (m - 1) * 9, none⟩)
def fmeas : Value → Nat
  | .pointer (some a) => a.off + 1
  | _ => 0
theorem fptr_zero (g : Nat) : fptr g 0 = .pointer none := rfl
theorem fptr_succ (g m : Nat) : fptr g (m + 1) = .pointer (some ⟨g, m * 9, none⟩) := by simp [fptr]
theorem last_f (h : StOk B w G P) {g m cap : Nat} (hm : P.frames.length = m) (hg : G.fsl = .slice (some ⟨g, 0, none⟩) m cap) (hc : m ≤ cap) (hx : cap ≤ maxLen) : Calls Try.prog 45 #[ptr G.at_] w fun e w' => e = .returned (fptr g m) ∧ Below w.heap.size w w' := by
  rcases m with _ | m
  · refine (last_none h (List.length_eq_zero_iff.1 hm)).mono ?_
    rintro e w' ⟨rfl, rfl⟩
    exact ⟨rfl, Below.refl _ _⟩
  · rw [fptr_succ]; exact last_c h hm hg hc hx
set_option maxHeartbeats 3200000 in
set_option maxRecDepth 100000 in
theorem throw_c (h : Sta B w D hs L i G P) (hL : L.length ≤ 1000) (hP : P.thr) (v : VD) {n : Nat} (hn : P.frames.length = n) (hn0 : 0 < n) :
    Calls Try.prog 21 #[ptr G.at_, v.agg] w fun e w' => e = .returned (ThrowRes v (P.throw v n)) ∧ ∃ B' D' G', Sta B' w' D' hs (L.set i (some (P.throw v n).1.cells)) i G' (P.throw v n).1 ∧ SMv B w D G B' w' D' G' := by
  obtain ⟨g, cap, eg, hcap, hmax⟩ : ∃ g cap, G.fsl = .slice (some ⟨g, 0, none⟩) n cap ∧ n ≤ cap ∧ cap ≤ maxLen := by
    obtain ⟨g, cap, e, _, h2, h3⟩ := h.ok.fr.some (by rw [h.ok.len]; omega)
    rw [h.ok.len, hn] at e h2
    exact ⟨g, cap, e, h2, h3⟩
  have hb0 : Below w.heap.size w ((w.alloc (.cells #[.int .i64 v.kind, .int .i64 v.n, .string v.s] 33)).alloc (.cells #[.int .i64 0, .int .i64 0, .string ⟨#[]⟩] 33)) := ((Below.refl _ _).alloc (Nat.le_refl _) _).alloc (by go_size) _
  have r3 : ((w.alloc (.cells #[.int .i64 v.kind, .int .i64 v.n, .string v.s] 33)).alloc (.cells #[.int .i64 0, .int .i64 0, .string ⟨#[]⟩] 33)).heap[w.heap.size]? = some (.cells #[.int .i64 v.kind, .int .i64 v.n, .string v.s] 33) := by rw [heap_alloc_old _ _ (by go_size), heap_alloc_new]
  have r4 := heap_alloc_new (w.alloc (.cells #[.int .i64 v.kind, .int .i64 v.n, .string v.s] 33)) (.cells #[.int .i64 0, .int .i64 0, .string ⟨#[]⟩] 33)
  rw [show (w.alloc (.cells #[.int .i64 v.kind, .int .i64 v.n, .string v.s] 33)).heap.size = w.heap.size + 1 by go_size] at r4
  have hsz : ((w.alloc (.cells #[.int .i64 v.kind, .int .i64 v.n, .string v.s] 33)).alloc (.cells #[.int .i64 0, .int .i64 0, .string ⟨#[]⟩] 33)).heap.size = w.heap.size + 2 := by go_size
  obtain ⟨hS0, hM0⟩ := h.room hb0 (b := w.heap.size + 1) (by omega) (by omega)
  have HS0 := hid hS0
  have HM0 := hid hM0
  have HE : Box (L.set i (some P.cells) = L) := hid (list_set_same h.cells)
  have HP := hid hP
  have HN := hid hn
  have HF3 : Box (¬ Foot D w.heap.size ∧ ¬ SFoot G w.heap.size ∧ ¬ Foot D (w.heap.size + 1) ∧ ¬ SFoot G (w.heap.size + 1) ∧ B ≤ w.heap.size) := hid ⟨fun hf => by have := (h.h.fam.foot_lt hf).1; omega, fun hf => by have := (h.ok.foot_lt hf).1; omega, fun hf => by have := (h.h.fam.foot_lt hf).1; omega, fun hf => by have := (h.ok.foot_lt hf).1; omega, Nat.le_trans h.ok.base (Nat.le_of_lt (h.ok.foot_lt (.inl rfl)).1)⟩
  obtain ⟨i0, hi, hz0, hz1, hz2⟩ := info_parts infoVal
  have HI := hid hi
  clear hS0 hM0 h hb0 hP hn hi
  unfold ptr VD.agg
  go_enter Try.func21, Try.ntmps21
  go_upto_region 3 with fail
  generalize ((w.alloc (.cells #[.int .i64 v.kind, .int .i64 v.n, .string v.s] 33)).alloc (.cells #[.int .i64 0, .int .i64 0, .string ⟨#[]⟩] 33)) = W at r3 r4 hsz HS0 HM0 ⊢
  go_wp2_with fail
  refine (last_f HS0.out.ok HN.out eg hcap hmax).mono ?_
  rintro e w3 ⟨rfl, hb3⟩
  have hS3 := HS0.out.below hb3
  have hM3 := HM0.out.trans (SMv.below D G hb3)
  have HR3 := hid ((hb3.block _ (by omega)).trans r3)
  have HR4 := hid ((hb3.block _ (by omega)).trans r4)
  have HSZ : Box (w.heap.size + 2 ≤ w3.heap.size) := hid (by have := hb3.size; omega)
  have HX := hid (show ∃ D1 G1, Sta (B.plus (w.heap.size + 1)) w3 D1 hs (L.set i (some P.cells)) i G1 P ∧ SMv B w D G (B.plus (w.heap.size + 1)) w3 D1 G1 ∧ SMv (B.plus (w.heap.size + 1)) w3 D G (B.plus (w.heap.size + 1)) w3 D1 G1 ∧ G1.fsl = .slice (some ⟨g, 0, none⟩) n cap from ⟨D, G, by rw [HE.out]; exact hS3, hM3, SMv.refl _ _ _ _, eg⟩)
  clear hS3 hM3 r3 r4 hsz hb3 HS0 HM0 eg
  go_wp2_with fail
  go_loopw [6] (fun f wx => ∃ m : Nat, m ≤ n ∧ f = fptr g m ∧ ∃ P1 : PS, Box (∃ D1 G1, Sta (B.plus (w.heap.size + 1)) wx D1 hs (L.set i (some P1.cells)) i G1 P1 ∧ SMv B w D G (B.plus (w.heap.size + 1)) wx D1 G1 ∧ SMv (B.plus (w.heap.size + 1)) w3 D G (B.plus (w.heap.size + 1)) wx D1 G1 ∧ G1.fsl = .slice (some ⟨g, 0, none⟩) m cap) ∧ Box (P1.frames.length = m ∧ P1.thr ∧ P1.throw v m = P.throw v n)) (fun f _ => fmeas f)
  case atStart => exact ⟨n, Nat.le_refl _, rfl, P, HX, hid ⟨HN.out, HP.out, rfl⟩⟩
  case round =>
    clear HX
    obtain ⟨m, hm, rfl, P1, HX, HT⟩ := hrel
    obtain ⟨D1, G1, hS, hM, hMw, hg1⟩ := HX.out
    have HS := hid hS
    have HM := hid hM
    have HMW := hid hMw
    have HG1 := hid hg1
    have HA := hid hM.at_
    have r3 := (hMw.keep w.heap.size (by have := HSZ.out; omega) HF3.out.1 HF3.out.2.1).trans HR3.out
    have r4 := (hMw.keep (w.heap.size + 1) (by have := HSZ.out; omega) HF3.out.2.2.1 HF3.out.2.2.2.1).trans HR4.out
    clear HX hS hM hMw hg1
    have HNF3 : Box (¬ SFoot G1 w.heap.size) := hid (fun hf => (HMW.out.sfoot _ hf).elim HF3.out.2.1 (by have := HSZ.out; omega))
    have HNF : Box (¬ Foot D1 (w.heap.size + 1) ∧ ¬ SFoot G1 (w.heap.size + 1)) := hid ⟨fun hf => (HMW.out.foot _ hf).elim HF3.out.2.2.1 (by have := HSZ.out; omega), fun hf => (HMW.out.sfoot _ hf).elim HF3.out.2.2.2.1 (by have := HSZ.out; omega)⟩
    have y0 := (cell_of_row _ _ 0 _ _ _ r3).trans (b := some (Value.int .i64 v.kind)) rfl
    have y1 := (cell_of_row _ _ 1 _ _ _ r3).trans (b := some (Value.int .i64 v.n)) rfl
    have y2 := (cell_of_row _ _ 2 _ _ _ r3).trans (b := some (Value.string v.s)) rfl
    rcases m with _ | m
    · rw [fptr_zero]
      have x0 := (cell_of_row _ _ 0 _ _ _ r4).trans (b := some (Value.int .i64 0)) rfl
      have x1 := (cell_of_row _ _ 1 _ _ _ r4).trans (b := some (Value.int .i64 0)) rfl
      have x2 := (cell_of_row _ _ 2 _ _ _ r4).trans (b := some (Value.string ⟨#[]⟩)) rfl
      have f0 : wr.frozen? ⟨w.heap.size + 1, 0, none⟩ = false := by simp [World.frozen?, r4]
      have f1 : wr.frozen? ⟨w.heap.size + 1, 1, none⟩ = false := by simp [World.frozen?, r4]
      have f2 : wr.frozen? ⟨w.heap.size + 1, 2, none⟩ = false := by simp [World.frozen?, r4]
      have hrow : (((wr.setCell ⟨w.heap.size + 1, 0, none⟩ (.int .i64 v.kind)).setCell ⟨w.heap.size + 1, 1, none⟩ (.int .i64 v.n)).setCell ⟨w.heap.size + 1, 2, none⟩ (.string v.s)).heap[w.heap.size + 1]? = some (.cells #[.int .i64 v.kind, .int .i64 v.n, .string v.s] 33) := (set_at (set_at (set_at r4 _) _) _).trans rfl
      have HFin := hid (HS.out.free3 (b := w.heap.size + 1) (.int .i64 v.kind) (.int .i64 v.n) (.string v.s) (.inr rfl) (Typ.of r4) HNF.out.1 HNF.out.2 (Nat.le_succ_of_le HF3.out.2.2.2.2))
      have HMin := hid (((HM.out.freeSet (b := w.heap.size + 1) (o := 0) (u := .int .i64 v.kind) (Nat.le_succ _)).freeSet (b := w.heap.size + 1) (o := 1) (u := .int .i64 v.n) (Nat.le_succ _)).freeSet (b := w.heap.size + 1) (o := 2) (u := .string v.s) (Nat.le_succ _))
      have HRow := hid hrow
      clear hrow r3 r4
      go_wp2_with fail
      have z0 := (cell_of_row _ _ 0 _ _ _ HRow.out).trans (b := some (Value.int .i64 v.kind)) rfl
      have z1 := (cell_of_row _ _ 1 _ _ _ HRow.out).trans (b := some (Value.int .i64 v.n)) rfl
      have z2 := (cell_of_row _ _ 2 _ _ _ HRow.out).trans (b := some (Value.string v.s)) rfl
      rw [← HT.out.2.2]
      refine bodyPost_ret (v := .tuple #[v.agg, .bool true]) (by simp [results, Try.results21, go_sem, z0, z1, z2, VD.agg]) rfl ⟨rfl, _, _, _, HFin.out, HMin.out⟩
    · rw [fptr_succ]
      have hm1 : P1.frames.length = m + 1 := HT.out.1
      obtain ⟨F, hF⟩ : ∃ F, P1.frames[m]? = some F := ⟨_, List.getElem?_eq_getElem (by omega)⟩
      have hFm := List.mem_of_getElem? hF
      obtain ⟨hgen, hvl, htl, htv⟩ := HT.out.2.1.fr F hFm
      obtain ⟨c, A, p, A', p', hc, ec, hcf, hvX, htR⟩ := HS.out.ok.frameAt HG1.out hF
      have k6 := hcf 6 (.slice A F.vals.length p) (by rw [ec]; rfl)
      have k7 := hcf 7 (.slice A' F.tries.length p') (by rw [ec]; rfl)
      have k8 := hcf 8 (.int .i64 F.gen) (by rw [ec]; rfl)
      have HC := hid hc
      have HEC := hid ec
      have HFF := hid hF
      have HVX := hid hvX
      have HTR := hid htR
      clear hcf hvX htR hc ec hF hm1
      rcases hr : F.tries.reverse with _ | ⟨t, ts⟩
      · have e0 : F.tries.length = 0 := by rw [← List.length_reverse, hr]; rfl
        have HRV := hid hr
        rw [e0] at k7
        clear e0 hr r3 r4 y0 y1 y2 k6
        go_wp2_with fail
        have HOv := over_c HS.out (by rw [List.length_set]; exact hL) hgen HT.out.2.1.cells
        rw [HA.out] at HOv
        refine HOv.mono ?_
        clear HOv
        rintro e w5 ⟨rfl, D5, hS5, hM5⟩
        rw [List.set_set] at hS5
        have c5 := hS5.ok.c (k := 5) (u := .slice (some ⟨g, 0, none⟩) (m + 1) cap) (by rw [← HG1.out]; rfl)
        have f5 := hS5.ok.frozen 5
        rw [HA.out] at c5 f5
        have HS5 := hid hS5
        have HM5 := hid hM5
        clear hS5 hM5 k7 k8
        have hw1 : IntKind.i64.wrap ((m : Int) + 1 - 1) = m := by rw [show (m : Int) + 1 - 1 = m by omega]; exact IntWalk.i64_in _ (by have := HT.out.2.1.frames; have := HT.out.1; omega)
        have hw2 : IntKind.i64.wrap (m : Int) = m := IntWalk.i64_in _ (by have := HT.out.2.1.frames; have := HT.out.1; omega)
        have hm0 : (0 : Int) ≤ (m : Int) := by omega
        have hmc : (m : Int) ≤ (cap : Int) := by omega
        go_upto_region 14 with fail
        refine wp_region_until [17] (S := (fun w' => w'.cell? ⟨G.at_, 5, none⟩ = some (.slice (some ⟨g, 0, none⟩) (m + 1) cap))) (by kernel_rfl) ?_ ?_
        · exact c5
        intro hS
        refine wpAnyU_take (i := 0) (v := (.pointer (some ⟨G.at_, 0, none⟩))) rfl (by kernel_rfl) (fun _ _ _ h => h) (leads_of [[17]] (by kernel_rfl)) (by kernel_rfl) (by kernel_rfl) (by kernel_rfl) (Or.inl ⟨by rfl, ?_⟩) hS ?_
        · intro w' hS'
          have s0 := hS'
          go_simp
        change wpAnyU _ _ _ _ _ _ _ _ (Act.put _ (some 79) _) _
        simp only [Act.put, List.setIfInBounds_toArray, List.set_cons_succ, List.set_cons_zero]
        refine wpAnyU_take (i := 1) (v := (.pointer (some ⟨G.at_, 0, none⟩))) rfl (by kernel_rfl) (fun _ _ _ h => h) (leads_of [[17]] (by kernel_rfl)) (by kernel_rfl) (by kernel_rfl) (by kernel_rfl) (Or.inl ⟨by rfl, ?_⟩) hS ?_
        · intro w' hS'
          have s0 := hS'
          go_simp
        change wpAnyU _ _ _ _ _ _ _ _ (Act.put _ (some 80) _) _
        simp only [Act.put, List.setIfInBounds_toArray, List.set_cons_succ, List.set_cons_zero]
        refine wpAnyU_take (i := 2) (v := (.pointer (some ⟨G.at_, 0, none⟩))) rfl (by kernel_rfl) (fun _ _ _ h => h) (leads_of [[17]] (by kernel_rfl)) (by kernel_rfl) (by kernel_rfl) (by kernel_rfl) (Or.inl ⟨by rfl, ?_⟩) hS ?_
        · intro w' hS'
          have s0 := hS'
          go_simp
        change wpAnyU _ _ _ _ _ _ _ _ (Act.put _ (some 81) _) _
        simp only [Act.put, List.setIfInBounds_toArray, List.set_cons_succ, List.set_cons_zero]
        refine wpAnyU_take (i := 3) (v := (.pointer (some ⟨G.at_, 1, none⟩))) rfl (by kernel_rfl) (fun _ _ _ h => h) (leads_of [[17]] (by kernel_rfl)) (by kernel_rfl) (by kernel_rfl) (by kernel_rfl) (Or.inl ⟨by rfl, ?_⟩) hS ?_
        · intro w' hS'
          have s0 := hS'
          go_simp
        change wpAnyU _ _ _ _ _ _ _ _ (Act.put _ (some 82) _) _
        simp only [Act.put, List.setIfInBounds_toArray, List.set_cons_succ, List.set_cons_zero]
        refine wpAnyU_take (i := 4) (v := (.pointer (some ⟨G.at_, 5, none⟩))) rfl (by kernel_rfl) (fun _ _ _ h => h) (leads_of [[17]] (by kernel_rfl)) (by kernel_rfl) (by kernel_rfl) (by kernel_rfl) (Or.inl ⟨by rfl, ?_⟩) hS ?_
        · intro w' hS'
          have s0 := hS'
          go_simp
        change wpAnyU _ _ _ _ _ _ _ _ (Act.put _ (some 83) _) _
        simp only [Act.put, List.setIfInBounds_toArray, List.set_cons_succ, List.set_cons_zero]
        refine wpAnyU_take (i := 5) (v := (.slice (some ⟨g, 0, none⟩) (m + 1) cap)) rfl (by kernel_rfl) (fun _ _ _ h => h) (leads_of [[17]] (by kernel_rfl)) (by kernel_rfl) (by kernel_rfl) (by kernel_rfl) (Or.inl ⟨by rfl, ?_⟩) hS ?_
        · intro w' hS'
          have s0 := hS'
          go_simp
        change wpAnyU _ _ _ _ _ _ _ _ (Act.put _ (some 84) _) _
        simp only [Act.put, List.setIfInBounds_toArray, List.set_cons_succ, List.set_cons_zero]
        refine wpAnyU_take (i := 6) (v := (.pointer (some ⟨G.at_, 0, none⟩))) rfl (by kernel_rfl) (fun _ _ _ h => h) (leads_of [[17]] (by kernel_rfl)) (by kernel_rfl) (by kernel_rfl) (by kernel_rfl) (Or.inl ⟨by rfl, ?_⟩) hS ?_
        · intro w' hS'
          have s0 := hS'
          go_simp
        change wpAnyU _ _ _ _ _ _ _ _ (Act.put _ (some 85) _) _
        simp only [Act.put, List.setIfInBounds_toArray, List.set_cons_succ, List.set_cons_zero]
        refine wpAnyU_take (i := 7) (v := (.pointer (some ⟨G.at_, 0, none⟩))) rfl (by kernel_rfl) (fun _ _ _ h => h) (leads_of [[17]] (by kernel_rfl)) (by kernel_rfl) (by kernel_rfl) (by kernel_rfl) (Or.inl ⟨by rfl, ?_⟩) hS ?_
        · intro w' hS'
          have s0 := hS'
          go_simp
        change wpAnyU _ _ _ _ _ _ _ _ (Act.put _ (some 86) _) _
        simp only [Act.put, List.setIfInBounds_toArray, List.set_cons_succ, List.set_cons_zero]
        refine wpAnyU_take (i := 8) (v := (.pointer (some ⟨G.at_, 1, none⟩))) rfl (by kernel_rfl) (fun _ _ _ h => h) (leads_of [[17]] (by kernel_rfl)) (by kernel_rfl) (by kernel_rfl) (by kernel_rfl) (Or.inl ⟨by rfl, ?_⟩) hS ?_
        · intro w' hS'
          have s0 := hS'
          go_simp
        change wpAnyU _ _ _ _ _ _ _ _ (Act.put _ (some 87) _) _
        simp only [Act.put, List.setIfInBounds_toArray, List.set_cons_succ, List.set_cons_zero]
        refine wpAnyU_take (i := 9) (v := (.pointer (some ⟨G.at_, 5, none⟩))) rfl (by kernel_rfl) (fun _ _ _ h => h) (leads_of [[17]] (by kernel_rfl)) (by kernel_rfl) (by kernel_rfl) (by kernel_rfl) (Or.inl ⟨by rfl, ?_⟩) hS ?_
        · intro w' hS'
          have s0 := hS'
          go_simp
        change wpAnyU _ _ _ _ _ _ _ _ (Act.put _ (some 88) _) _
        simp only [Act.put, List.setIfInBounds_toArray, List.set_cons_succ, List.set_cons_zero]
        refine wpAnyU_take (i := 10) (v := (.slice (some ⟨g, 0, none⟩) (m + 1) cap)) rfl (by kernel_rfl) (fun _ _ _ h => h) (leads_of [[17]] (by kernel_rfl)) (by kernel_rfl) (by kernel_rfl) (by kernel_rfl) (Or.inl ⟨by rfl, ?_⟩) hS ?_
        · intro w' hS'
          have s0 := hS'
          go_simp
        change wpAnyU _ _ _ _ _ _ _ _ (Act.put _ (some 89) _) _
        simp only [Act.put, List.setIfInBounds_toArray, List.set_cons_succ, List.set_cons_zero]
        refine wpAnyU_take (i := 11) (v := (.int .i64 ((m : Nat) + 1))) rfl (by kernel_rfl) (fun _ _ _ h => h) (leads_of [[17]] (by kernel_rfl)) (by kernel_rfl) (by kernel_rfl) (by kernel_rfl) (Or.inl ⟨by rfl, ?_⟩) hS ?_
        · intro w' hS'
          have s0 := hS'
          go_simp
        change wpAnyU _ _ _ _ _ _ _ _ (Act.put _ (some 90) _) _
        simp only [Act.put, List.setIfInBounds_toArray, List.set_cons_succ, List.set_cons_zero]
        refine wpAnyU_take (i := 12) (v := (.int .i64 (m : Nat))) rfl (by kernel_rfl) (fun _ _ _ h => h) (leads_of [[17]] (by kernel_rfl)) (by kernel_rfl) (by kernel_rfl) (by kernel_rfl) (Or.inl ⟨by rfl, ?_⟩) hS ?_
        · intro w' hS'
          have s0 := hS'
          go_simp
        change wpAnyU _ _ _ _ _ _ _ _ (Act.put _ (some 91) _) _
        simp only [Act.put, List.setIfInBounds_toArray, List.set_cons_succ, List.set_cons_zero]
        refine wpAnyU_take (i := 13) (v := (.slice (some ⟨g, 0, none⟩) m cap)) rfl (by kernel_rfl) (fun _ _ _ h => h) (leads_of [[17]] (by kernel_rfl)) (by kernel_rfl) (by kernel_rfl) (by kernel_rfl) (Or.inl ⟨by rfl, ?_⟩) hS ?_
        · intro w' hS'
          have s0 := hS'
          go_simp
        change wpAnyU _ _ _ _ _ _ _ _ (Act.put _ (some 92) _) _
        simp only [Act.put, List.setIfInBounds_toArray, List.set_cons_succ, List.set_cons_zero]
        refine wpAnyU_take (i := 14) (v := (.pointer (some ⟨G.at_, 0, none⟩))) rfl (by kernel_rfl) (fun _ _ _ h => h) (leads_of [[15, 16, 17]] (by kernel_rfl)) (by kernel_rfl) (by kernel_rfl) (by kernel_rfl) (Or.inl ⟨by rfl, ?_⟩) hS ?_
        · intro w' hS'
          have s0 := hS'
          go_simp
        change wpAnyU _ _ _ _ _ _ _ _ (Act.put _ (some 93) _) _
        simp only [Act.put, List.setIfInBounds_toArray, List.set_cons_succ, List.set_cons_zero]
        refine wpAnyU_take (i := 15) (v := (.pointer (some ⟨G.at_, 1, none⟩))) rfl (by kernel_rfl) (fun _ _ _ h => h) (leads_of [[16, 17]] (by kernel_rfl)) (by kernel_rfl) (by kernel_rfl) (by kernel_rfl) (Or.inl ⟨by rfl, ?_⟩) hS ?_
        · intro w' hS'
          have s0 := hS'
          go_simp
        change wpAnyU _ _ _ _ _ _ _ _ (Act.put _ (some 94) _) _
        simp only [Act.put, List.setIfInBounds_toArray, List.set_cons_succ, List.set_cons_zero]
        refine wpAnyU_take (i := 16) (v := (.pointer (some ⟨G.at_, 5, none⟩))) rfl (by kernel_rfl) (fun _ _ _ h => h) (leads_of [[17]] (by kernel_rfl)) (by kernel_rfl) (by kernel_rfl) (by kernel_rfl) (Or.inl ⟨by rfl, ?_⟩) hS ?_
        · intro w' hS'
          have s0 := hS'
          go_simp
        change wpAnyU _ _ _ _ _ _ _ _ (Act.put _ (some 95) _) _
        simp only [Act.put, List.setIfInBounds_toArray, List.set_cons_succ, List.set_cons_zero]
        refine wpAnyU_all (rs := [17]) (by kernel_rfl) (by simp) ?_
        intro j hj
        obtain rfl := List.mem_singleton.1 hj
        clear hj
        refine wpOp_shut rfl (fun K' HK => ?_)
        go_simp
        refine HK.out _ _ ⟨.inl (by decide), ?_⟩
        clear HK K'
        refine wpAnyU_done (by kernel_rfl) ?_ _
        have hpop := (HS5.out.below (Below.refl w5.heap.size w5).drew).popFrame HG1.out (Nat.le_succ m)
        rw [HA.out, PS.over_frames] at hpop
        have HS6 := hid hpop.1
        have HM6 := hid (((HM.out.trans HM5.out).trans (SMv.below D5 G1 (Below.refl w5.heap.size w5).drew)).trans hpop.2)
        have HW6 := hid (((HMW.out.trans HM5.out).trans (SMv.below D5 G1 (Below.refl w5.heap.size w5).drew)).trans hpop.2)
        clear hpop HS5 HM5 c5 f5 hS hw1 hw2
        go_wp2_with fail
        have HLs := last_f (m := m) HS6.out.ok (by show (P1.frames.take m).length = m; rw [List.length_take, HT.out.1]; omega) rfl (by omega) hmax
        refine HLs.mono ?_
        clear HLs
        rintro e w7 ⟨rfl, hb7⟩
        have HX := hid (show ∃ D1 G1, Sta (B.plus (w.heap.size + 1)) w7 D1 hs (L.set i (some (P1.over F.gen).cells)) i G1 { P1.over F.gen with frames := P1.frames.take m } ∧ SMv B w D G (B.plus (w.heap.size + 1)) w7 D1 G1 ∧ SMv (B.plus (w.heap.size + 1)) w3 D G (B.plus (w.heap.size + 1)) w7 D1 G1 ∧ G1.fsl = .slice (some ⟨g, 0, none⟩) m cap from
          ⟨D5, _, HS6.out.below hb7, HM6.out.trans (SMv.below _ _ hb7), HW6.out.trans (SMv.below _ _ hb7), rfl⟩)
        have HT2 := hid (show (P1.frames.take m).length = m ∧ PS.thr { P1.over F.gen with frames := P1.frames.take m } ∧ PS.throw v m { P1.over F.gen with frames := P1.frames.take m } = P.throw v n from
          ⟨by rw [List.length_take, HT.out.1]; omega, HT.out.2.1.less F.gen m, by rw [← HT.out.2.2]; simp only [PS.throw, HFF.out, HRV.out]⟩)
        clear hb7 HS6 HM6 HW6
        go_wp2_with fail
        go_roundw
        case rel => exact ⟨m, by omega, rfl, { P1.over F.gen with frames := P1.frames.take m }, HX, HT2⟩
        case measure => rcases m with _ | m <;> simp [fmeas, fptr]
      · obtain ⟨q, hq⟩ : ∃ q, q = ts.length := ⟨_, rfl⟩
        have eF : F.tries = ts.reverse ++ [t] := by rw [← List.reverse_reverse F.tries, hr, List.reverse_cons]
        have e0 : F.tries.length = q + 1 := by rw [eF, hq]; simp
        have htq : (F.tries.map TrD.row)[q]? = some t.row := by rw [eF, List.map_append, List.getElem?_append_right (by simp [hq])]; simp [hq]
        have hpure : P.throw v n = ({ P1 with frames := P1.frames.set m (tryTo F ts.reverse t v) }, false) := by rw [← HT.out.2.2]; simp only [PS.throw, HFF.out, hr]
        obtain ⟨htv0, htv1⟩ := htv t (by rw [eF]; simp)
        have htn := rowR_cap HTR.out
        obtain ⟨_, _, htg⟩ := HTR.out.get
        obtain ⟨bt, ot, eA', _, htc⟩ := htg q _ htq
        subst eA'
        have t0 := htc 0 _ rfl
        have t1 := htc 1 _ rfl
        have t2 := htc 2 _ rfl
        have hts := rowR_take (m := q) HTR.out (by omega)
        rw [← List.map_take, eF, List.take_left' (by simp [hq])] at hts
        have HTS := hid hts
        have HPure := hid hpure
        rw [e0] at k7 htn
        have hqp : (q : Int) ≤ (p' : Int) := by omega
        have hw1 : IntKind.i64.wrap ((q : Int) + 1 - 1) = q := by rw [show (q : Int) + 1 - 1 = q by omega]; exact IntWalk.i64_in _ (by omega)
        have hw2 : IntKind.i64.wrap (q : Int) = q := IntWalk.i64_in _ (by omega)
        simp only [Nat.add_zero] at t0
        have HE0 := hid e0
        have HRest := hid (And.intro hvl (And.intro htv0 htv1))
        clear htc htg hts hpure e0 eF htq hr hq htl htv hgen y0 y1 y2 k6 k8
        have hb8 := (Below.refl wr.heap.size wr).alloc (Nat.le_refl _) (.cells #[.int .i64 t.pc, .int .i64 t.vals, .int .i64 t.scope] 57)
        have r8 := heap_alloc_new wr (.cells #[.int .i64 t.pc, .int .i64 t.vals, .int .i64 t.scope] 57)
        have l8 : wr.heap.size < (wr.alloc (.cells #[.int .i64 t.pc, .int .i64 t.vals, .int .i64 t.scope] 57)).heap.size := by go_size
        have l3 : w.heap.size + 2 ≤ wr.heap.size := by have := HSZ.out; have := HMW.out.fr.size; omega
        have k7' := carry hb8 (block_lt_of_cell k7) k7
        have r3' := (hb8.block _ (by omega)).trans r3
        have r4' := (hb8.block _ (by omega)).trans r4
        have hS8 := HS.out.below hb8
        have f7 : (wr.alloc (.cells #[.int .i64 t.pc, .int .i64 t.vals, .int .i64 t.scope] 57)).frozen? ⟨g, m * 9 + 7, none⟩ = false := by
          have h1 := hS8.ok.fr
          rw [HG1.out] at h1
          exact xr_frozen h1 _
        have HS8 := hid hS8
        have HM8 := hid (HM.out.trans (SMv.below D1 G1 hb8))
        have hx8 : FrX (B.plus (w.heap.size + 1)) (wr.alloc (.cells #[.int .i64 t.pc, .int .i64 t.vals, .int .i64 t.scope] 57)) { F with tries := ts.reverse } (c.set 7 (.slice (some ⟨bt, ot, none⟩) q p')) :=
          ⟨.slice A F.vals.length p, .slice (some ⟨bt, ot, none⟩) q p', by rw [HEC.out]; rfl, HVX.out.keep (Ext.refl _ wr.heap.size) (fun k hk => hb8.block k (HVX.out.typ hk).1.lt), HTS.out.move (Fr.of_below hb8)⟩
        have HX8 := hid hx8
        have HNF8 : Box (¬ Foot D1 wr.heap.size ∧ ¬ SFoot G1 wr.heap.size) := hid ⟨fun hf => by have := (HS.out.h.fam.foot_lt hf).1; omega, fun hf => by have := (HS.out.ok.foot_lt hf).1; omega⟩
        have lg : g < wr.heap.size := block_lt_of_cell k7
        go_upto_region 9 with fail
        clear hb8 hS8 hx8 r3 r4 k7 t0 t1 t2 HS HM HMW
        generalize (wr.alloc (.cells #[.int .i64 t.pc, .int .i64 t.vals, .int .i64 t.scope] 57)) = W8 at r8 l8 k7' r3' r4' f7 HS8 HM8 HX8 ⊢
        obtain ⟨b8, hb8⟩ : ∃ b, b = wr.heap.size := ⟨_, rfl⟩
        rw [← hb8] at r8 l8 HNF8 lg ⊢
        clear hb8
        go_upto_region 10 with fail
        have hfs := HS8.out.frSet HG1.out HC.out (k := 7) (u := .slice (some ⟨bt, ot, none⟩) q p') (by decide) (F' := { F with tries := ts.reverse }) HX8.out (by rw [HEC.out]; exact fun b hb => hb)
        clear k7' f7 l8
        have hMg : g ≠ w.heap.size + 1 := fun e => HNF.out.2 (e ▸ .inr (.inl (by rw [HG1.out]; rfl)))
        have hM3 : g ≠ w.heap.size := fun e => HNF3.out (e ▸ .inr (.inl (by rw [HG1.out]; rfl)))
        have hM8 : g ≠ b8 := by omega
        have r8' := (set_ne (i := m * 9 + 7) (.slice (some ⟨bt, ot, none⟩) q p') hM8.symm).trans r8
        have r3'' := (set_ne (i := m * 9 + 7) (.slice (some ⟨bt, ot, none⟩) q p') hM3.symm).trans r3'
        have r4'' := (set_ne (i := m * 9 + 7) (.slice (some ⟨bt, ot, none⟩) q p') hMg.symm).trans r4'
        have hS9 := hfs.1
        have HM9 := hid (HM8.out.trans hfs.2)
        have HNF9 : Box (¬ SFoot { G1 with rows := G1.rows.set m (c.set 7 (.slice (some ⟨bt, ot, none⟩) q p')) } (w.heap.size + 1) ∧ ¬ SFoot { G1 with rows := G1.rows.set m (c.set 7 (.slice (some ⟨bt, ot, none⟩) q p')) } b8 ∧ ¬ SFoot { G1 with rows := G1.rows.set m (c.set 7 (.slice (some ⟨bt, ot, none⟩) q p')) } w.heap.size) := hid ⟨fun hf => (hfs.2.sfoot _ hf).elim HNF.out.2 (by have := (Array.getElem?_eq_some_iff.1 r4').1; omega), fun hf => (hfs.2.sfoot _ hf).elim HNF8.out.2 (by have := (Array.getElem?_eq_some_iff.1 r8).1; omega), fun hf => (hfs.2.sfoot _ hf).elim HNF3.out (by have := (Array.getElem?_eq_some_iff.1 r3').1; omega)⟩
        clear hfs r8 r3' r4' HX8 HS8 HM8 HC HEC HVX HTR HTS
        generalize (W8.setCell ⟨g, m * 9 + 7, none⟩ (.slice (some ⟨bt, ot, none⟩) q p')) = W9 at r8' r3'' r4'' hS9 HM9 ⊢
        have hlm : m < P1.frames.length := by have := HT.out.1; omega
        have hF9 : (P1.frames.set m { F with tries := ts.reverse })[m]? = some { F with tries := ts.reverse } := by rw [List.getElem?_set_self hlm]
        generalize hG9 : ({ G1 with rows := G1.rows.set m (c.set 7 (.slice (some ⟨bt, ot, none⟩) q p')) } : SG) = G9 at hS9 HM9 HNF9
        have hfs9 : G9.fsl = .slice (some ⟨g, 0, none⟩) (m + 1) cap := by rw [← hG9]; exact HG1.out
        have hat9 : G9.at_ = G.at_ := by rw [← hG9]; exact HA.out
        clear hG9
        obtain ⟨c9, A9, p9, At9, pt9, hc9, ec9, hcf9, hvX9, htR9⟩ := hS9.ok.frameAt (j := m) hfs9 hF9
        have k6 := hcf9 6 (.slice A9 F.vals.length p9) (by rw [ec9]; rfl)
        have HS9 := hid hS9
        have HC9 := hid hc9
        have HEC9 := hid ec9
        have HVX9 := hid hvX9
        have HFS9 := hid hfs9
        have HF9 := hid hF9
        clear hS9 hc9 ec9 hcf9 hvX9 htR9 hfs9 hat9 hF9 hlm
        have y0 := (cell_of_row _ _ 0 _ _ _ r3'').trans (b := some (Value.int .i64 v.kind)) rfl
        have y1 := (cell_of_row _ _ 1 _ _ _ r3'').trans (b := some (Value.int .i64 v.n)) rfl
        have y2 := (cell_of_row _ _ 2 _ _ _ r3'').trans (b := some (Value.string v.s)) rfl
        have u1 := (cell_of_row _ _ 1 _ _ _ r8').trans (b := some (Value.int .i64 t.vals)) rfl
        have R8 := hid r8'
        have R4 := hid r4''
        clear r8' r3'' r4'' HNF3 HR3 HR4
        obtain ⟨x, hx⟩ : ∃ x, x = min F.vals.length t.vals.toNat := ⟨_, rfl⟩
        have htv := HRest.out
        have hx2 : (if t.vals < ((F.vals.length : Nat) : Int) then t.vals else ((F.vals.length : Nat) : Int)) = (x : Nat) := by split <;> omega
        have hx3 : (x : Int) ≤ (F.vals.length : Nat) := by omega
        have hxt : F.vals.take t.vals.toNat = F.vals.take x := by
          rcases Nat.le_total F.vals.length t.vals.toNat with h | h
          · rw [List.take_of_length_le h, List.take_of_length_le (by omega)]
          · rw [show x = t.vals.toNat by omega]
        have HXT := hid hxt
        have hxl : (F.vals.take x).length = x := by rw [List.length_take]; omega
        have HXL := hid hxl
        have HXX := hid hx
        clear hxt hxl hx htv
        have hp9 : (F.vals.length : Int) ≤ (p9 : Int) := by
          have := rowR_cap HVX9.out.here
          simp only at this
          omega
        rcases HVX9.out.own.2 with ⟨e, _⟩ | ⟨gv, cp, cur, e, _⟩
        · injection e with e1 e2 e3
          subst e1 e3
          have e2' : F.vals.length = 0 := e2
          rw [e2'] at k6
          clear e2
          have hx0 : x = 0 := by have := HXX.out; omega
          clear hx2 hx3 hp9
          subst hx0
          have hx2 : (if t.vals < (0 : Int) then t.vals else 0) = 0 := by have := HRest.out; split <;> omega
          have HE2 := hid e2'
          clear e2'
          refine wp_region_until [19] (S := (fun w' => w'.cell? ⟨g, m * 9 + 6, none⟩ = some (.slice none 0 0) ∧ w'.cell? ⟨b8, 1, none⟩ = some (.int .i64 t.vals) ∧ w'.cell? ⟨w.heap.size, 0, none⟩ = some (.int .i64 v.kind) ∧ w'.cell? ⟨w.heap.size, 1, none⟩ = some (.int .i64 v.n) ∧ w'.cell? ⟨w.heap.size, 2, none⟩ = some (.string v.s))) (by kernel_rfl) ?_ ?_
          · exact ⟨k6, u1, y0, y1, y2⟩
          intro hS
          refine wpAnyU_take (i := 0) (v := (.pointer (some ⟨g, m * 9, none⟩))) rfl (by kernel_rfl) (fun _ _ _ h => h) (leads_of [[19]] (by kernel_rfl)) (by kernel_rfl) (by kernel_rfl) (by kernel_rfl) (Or.inl ⟨by rfl, ?_⟩) hS ?_
          · intro w' hS'
            obtain ⟨s0, s1, s2, s3, s4⟩ := hS'
            go_simp
          change wpAnyU _ _ _ _ _ _ _ _ (Act.put _ (some 43) _) _
          simp only [Act.put, List.setIfInBounds_toArray, List.set_cons_succ, List.set_cons_zero]
          refine wpAnyU_take (i := 1) (v := (.pointer (some ⟨g, m * 9, none⟩))) rfl (by kernel_rfl) (fun _ _ _ h => h) (leads_of [[19]] (by kernel_rfl)) (by kernel_rfl) (by kernel_rfl) (by kernel_rfl) (Or.inl ⟨by rfl, ?_⟩) hS ?_
          · intro w' hS'
            obtain ⟨s0, s1, s2, s3, s4⟩ := hS'
            go_simp
          change wpAnyU _ _ _ _ _ _ _ _ (Act.put _ (some 44) _) _
          simp only [Act.put, List.setIfInBounds_toArray, List.set_cons_succ, List.set_cons_zero]
          refine wpAnyU_take (i := 2) (v := (.pointer (some ⟨g, m * 9, none⟩))) rfl (by kernel_rfl) (fun _ _ _ h => h) (leads_of [[19]] (by kernel_rfl)) (by kernel_rfl) (by kernel_rfl) (by kernel_rfl) (Or.inl ⟨by rfl, ?_⟩) hS ?_
          · intro w' hS'
            obtain ⟨s0, s1, s2, s3, s4⟩ := hS'
            go_simp
          change wpAnyU _ _ _ _ _ _ _ _ (Act.put _ (some 45) _) _
          simp only [Act.put, List.setIfInBounds_toArray, List.set_cons_succ, List.set_cons_zero]
          refine wpAnyU_take (i := 3) (v := (.pointer (some ⟨g, m * 9 + 6, none⟩))) rfl (by kernel_rfl) (fun _ _ _ h => h) (leads_of [[19]] (by kernel_rfl)) (by kernel_rfl) (by kernel_rfl) (by kernel_rfl) (Or.inl ⟨by rfl, ?_⟩) hS ?_
          · intro w' hS'
            obtain ⟨s0, s1, s2, s3, s4⟩ := hS'
            go_simp
          change wpAnyU _ _ _ _ _ _ _ _ (Act.put _ (some 46) _) _
          simp only [Act.put, List.setIfInBounds_toArray, List.set_cons_succ, List.set_cons_zero]
          refine wpAnyU_take (i := 4) (v := (.slice none 0 0)) rfl (by kernel_rfl) (fun _ _ _ h => h) (leads_of [[19]] (by kernel_rfl)) (by kernel_rfl) (by kernel_rfl) (by kernel_rfl) (Or.inl ⟨by rfl, ?_⟩) hS ?_
          · intro w' hS'
            obtain ⟨s0, s1, s2, s3, s4⟩ := hS'
            go_simp
          change wpAnyU _ _ _ _ _ _ _ _ (Act.put _ (some 47) _) _
          simp only [Act.put, List.setIfInBounds_toArray, List.set_cons_succ, List.set_cons_zero]
          refine wpAnyU_take (i := 5) (v := (.pointer (some ⟨g, m * 9, none⟩))) rfl (by kernel_rfl) (fun _ _ _ h => h) (leads_of [[19]] (by kernel_rfl)) (by kernel_rfl) (by kernel_rfl) (by kernel_rfl) (Or.inl ⟨by rfl, ?_⟩) hS ?_
          · intro w' hS'
            obtain ⟨s0, s1, s2, s3, s4⟩ := hS'
            go_simp
          change wpAnyU _ _ _ _ _ _ _ _ (Act.put _ (some 48) _) _
          simp only [Act.put, List.setIfInBounds_toArray, List.set_cons_succ, List.set_cons_zero]
          refine wpAnyU_take (i := 6) (v := (.pointer (some ⟨g, m * 9, none⟩))) rfl (by kernel_rfl) (fun _ _ _ h => h) (leads_of [[19]] (by kernel_rfl)) (by kernel_rfl) (by kernel_rfl) (by kernel_rfl) (Or.inl ⟨by rfl, ?_⟩) hS ?_
          · intro w' hS'
            obtain ⟨s0, s1, s2, s3, s4⟩ := hS'
            go_simp
          change wpAnyU _ _ _ _ _ _ _ _ (Act.put _ (some 49) _) _
          simp only [Act.put, List.setIfInBounds_toArray, List.set_cons_succ, List.set_cons_zero]
          refine wpAnyU_take (i := 7) (v := (.pointer (some ⟨g, m * 9 + 6, none⟩))) rfl (by kernel_rfl) (fun _ _ _ h => h) (leads_of [[19]] (by kernel_rfl)) (by kernel_rfl) (by kernel_rfl) (by kernel_rfl) (Or.inl ⟨by rfl, ?_⟩) hS ?_
          · intro w' hS'
            obtain ⟨s0, s1, s2, s3, s4⟩ := hS'
            go_simp
          change wpAnyU _ _ _ _ _ _ _ _ (Act.put _ (some 50) _) _
          simp only [Act.put, List.setIfInBounds_toArray, List.set_cons_succ, List.set_cons_zero]
          refine wpAnyU_take (i := 8) (v := (.slice none 0 0)) rfl (by kernel_rfl) (fun _ _ _ h => h) (leads_of [[19]] (by kernel_rfl)) (by kernel_rfl) (by kernel_rfl) (by kernel_rfl) (Or.inl ⟨by rfl, ?_⟩) hS ?_
          · intro w' hS'
            obtain ⟨s0, s1, s2, s3, s4⟩ := hS'
            go_simp
          change wpAnyU _ _ _ _ _ _ _ _ (Act.put _ (some 51) _) _
          simp only [Act.put, List.setIfInBounds_toArray, List.set_cons_succ, List.set_cons_zero]
          refine wpAnyU_take (i := 9) (v := (.int .i64 0)) rfl (by kernel_rfl) (fun _ _ _ h => h) (leads_of [[19]] (by kernel_rfl)) (by kernel_rfl) (by kernel_rfl) (by kernel_rfl) (Or.inl ⟨by rfl, ?_⟩) hS ?_
          · intro w' hS'
            obtain ⟨s0, s1, s2, s3, s4⟩ := hS'
            go_simp
          change wpAnyU _ _ _ _ _ _ _ _ (Act.put _ (some 52) _) _
          simp only [Act.put, List.setIfInBounds_toArray, List.set_cons_succ, List.set_cons_zero]
          refine wpAnyU_take (i := 10) (v := (.pointer (some ⟨b8, 1, none⟩))) rfl (by kernel_rfl) (fun _ _ _ h => h) (leads_of [[19]] (by kernel_rfl)) (by kernel_rfl) (by kernel_rfl) (by kernel_rfl) (Or.inl ⟨by rfl, ?_⟩) hS ?_
          · intro w' hS'
            obtain ⟨s0, s1, s2, s3, s4⟩ := hS'
            go_simp
          change wpAnyU _ _ _ _ _ _ _ _ (Act.put _ (some 53) _) _
          simp only [Act.put, List.setIfInBounds_toArray, List.set_cons_succ, List.set_cons_zero]
          refine wpAnyU_take (i := 11) (v := (.int .i64 t.vals)) rfl (by kernel_rfl) (fun _ _ _ h => h) (leads_of [[19]] (by kernel_rfl)) (by kernel_rfl) (by kernel_rfl) (by kernel_rfl) (Or.inl ⟨by rfl, ?_⟩) hS ?_
          · intro w' hS'
            obtain ⟨s0, s1, s2, s3, s4⟩ := hS'
            go_simp
          change wpAnyU _ _ _ _ _ _ _ _ (Act.put _ (some 54) _) _
          simp only [Act.put, List.setIfInBounds_toArray, List.set_cons_succ, List.set_cons_zero]
          refine wpAnyU_take (i := 12) (v := (.int .i64 0)) rfl (by kernel_rfl) (fun _ _ _ h => h) (leads_of [[19]] (by kernel_rfl)) (by kernel_rfl) (by kernel_rfl) (by kernel_rfl) (Or.inl ⟨by rfl, ?_⟩) hS ?_
          · intro w' hS'
            obtain ⟨s0, s1, s2, s3, s4⟩ := hS'
            go_simp
          change wpAnyU _ _ _ _ _ _ _ _ (Act.put _ (some 55) _) _
          simp only [Act.put, List.setIfInBounds_toArray, List.set_cons_succ, List.set_cons_zero]
          refine wpAnyU_take (i := 13) (v := (.slice none 0 0)) rfl (by kernel_rfl) (fun _ _ _ h => h) (leads_of [[19]] (by kernel_rfl)) (by kernel_rfl) (by kernel_rfl) (by kernel_rfl) (Or.inl ⟨by rfl, ?_⟩) hS ?_
          · intro w' hS'
            obtain ⟨s0, s1, s2, s3, s4⟩ := hS'
            go_simp
          change wpAnyU _ _ _ _ _ _ _ _ (Act.put _ (some 56) _) _
          simp only [Act.put, List.setIfInBounds_toArray, List.set_cons_succ, List.set_cons_zero]
          refine wpAnyU_take (i := 14) (v := (.agg #[.int .i64 v.kind, .int .i64 v.n, .string v.s])) rfl (by kernel_rfl) (fun _ _ _ h => h) (leads_of [[19]] (by kernel_rfl)) (by kernel_rfl) (by kernel_rfl) (by kernel_rfl) (Or.inl ⟨by rfl, ?_⟩) hS ?_
          · intro w' hS'
            obtain ⟨s0, s1, s2, s3, s4⟩ := hS'
            go_simp
          change wpAnyU _ _ _ _ _ _ _ _ (Act.put _ (some 57) _) _
          simp only [Act.put, List.setIfInBounds_toArray, List.set_cons_succ, List.set_cons_zero]
          refine wpAnyU_all (rs := [15]) (by kernel_rfl) (by simp) ?_
          intro j hj
          obtain rfl := List.mem_singleton.1 hj
          clear hj
          refine wpOp_shut rfl (fun K' HK => ?_)
          go_simp
          have HB15 := hid (below_drew ((Below.refl W9.drew.heap.size W9.drew).alloc (Nat.le_refl _) (.cells #[.int .i64 v.kind, .int .i64 v.n, .string v.s] 33)))
          have r15 := heap_alloc_new W9.drew (.cells #[.int .i64 v.kind, .int .i64 v.n, .string v.s] 33)
          refine HK.out _ _ ⟨.inr ?_, ?_⟩
          · exact ⟨keepc HB15.out k6, keepc HB15.out u1, keepc HB15.out y0, keepc HB15.out y1, keepc HB15.out y2⟩
          clear HK K'
          have hS := And.intro (keepc HB15.out k6) (And.intro (keepc HB15.out u1) (And.intro (keepc HB15.out y0) (And.intro (keepc HB15.out y1) (keepc HB15.out y2))))
          try simp only [Act.put, List.setIfInBounds_toArray, List.set_cons_succ, List.set_cons_zero]
          refine wpAnyU_all (rs := [16]) (by kernel_rfl) (by simp) ?_
          intro j hj
          obtain rfl := List.mem_singleton.1 hj
          clear hj
          refine wpOp_shut rfl (fun K' HK => ?_)
          have HS15 := hid (HS9.out.below HB15.out)
          have hown : (W9.drew.alloc (.cells #[.int .i64 v.kind, .int .i64 v.n, .string v.s] 33)).ownsRow (B.plus (w.heap.size + 1)) 33 3 (.slice none 0 0) (0) ((F.vals.take 0).map VD.row).flatten := by rw [List.take_zero]; exact World.ownsRow_nil _ _ _ _
          have HOwn := hid hown
          clear hown
          refine step_append_lies _ (by rfl) (.tmp 56) (.tmp 58) 31 (by rfl) (B.plus (w.heap.size + 1)) 33 i0 (.agg #[.int .i64 0, .int .i64 0, .string ByteArray.empty]) 3 32 Try.underlying31 HI.out hz0 hz1 hz2 rfl (by decide) (.slice none 0 0) (0) ((F.vals.take 0).map VD.row).flatten ?c1 ?c2 ⟨W9.heap.size, 0, none⟩ 1 1 v.row ?c3 rfl ?c4 ?c5 (by decide) ?c6 ?c7 ?c8 _ rfl ?_
          (case c1 => rfl)
          (case c2 => exact HOwn.out)
          (case c3 => rfl)
          (case c4 => exact World.news_of_block r15)
          (case c5 => simp [VD.row, Value.oneCell'])
          (case c6 => unfold maxLen; omega)
          (case c7 => omega)
          (case c8 => exact Nat.le_trans HS15.out.ok.base (Nat.le_of_lt (HS15.out.ok.foot_lt (.inl rfl)).1))
          intro ga capv w18 ho18 hg18 hgl18 hlt18
          have HX15 := hid ((HS15.out.ok.row m _ c9 HF9.out HC9.out).vals)
          have hvo : (valsOf c9) = .slice (none) F.vals.length 0 := by rw [HEC9.out]; rfl
          have hgn : (valsOf c9).ownBlock ≠ some g := fun e => absurd ((HX15.out.typ e).1.uniq (HS15.out.ok.fr.typ (k := g) (by rw [HFS9.out]; rfl)).1) (by decide)
          have hgr : (W9.drew.alloc (.cells #[.int .i64 v.kind, .int .i64 v.n, .string v.s] 33)).grownBy w18 (valsOf c9).ownBlock := by rw [hvo]; exact hg18
          have hp18 : w18.heap[g]? = (W9.drew.alloc (.cells #[.int .i64 v.kind, .int .i64 v.n, .string v.s] 33)).heap[g]? := hgr.block _ (Nat.lt_of_lt_of_le (block_lt_of_cell k6) HB15.out.size) (fun e => hgn e.symm)
          have hfz : (W9.drew.alloc (.cells #[.int .i64 v.kind, .int .i64 v.n, .string v.s] 33)).frozen? ⟨g, m * 9 + 6, none⟩ = false := by
            have h1 := HS15.out.ok.fr
            rw [HFS9.out] at h1
            exact xr_frozen h1 _
          have m0 := (World.cell?_of_block (a := ⟨g, m * 9 + 6, none⟩) hp18).trans hS.1
          have m1 : w18.frozen? ⟨g, m * 9 + 6, none⟩ = false := (World.frozen?_of_block (a := ⟨g, m * 9 + 6, none⟩) hp18).trans hfz
          have HO18 := hid ho18
          have HG18 := hid hgr
          have HGL := hid (show (valsOf c9).ownBlock = some ga ∨ ga = (W9.drew.alloc (.cells #[.int .i64 v.kind, .int .i64 v.n, .string v.s] 33)).heap.size by rw [hvo]; exact hgl18)
          have HLT := hid hlt18
          have mb8 := HG18.out.block b8 (Nat.lt_of_lt_of_le (block_lt_of_cell u1) HB15.out.size) (fun e => HNF9.out.2.1 (.inr (.inr (.inl ⟨c9, List.mem_of_getElem? HC9.out, e.symm⟩))))
          have mb3 := HG18.out.block w.heap.size (Nat.lt_of_lt_of_le (block_lt_of_cell y0) HB15.out.size) (fun e => HNF9.out.2.2 (.inr (.inr (.inl ⟨c9, List.mem_of_getElem? HC9.out, e.symm⟩))))
          have m2 := (World.cell?_of_block (a := ⟨b8, 1, none⟩) mb8).trans hS.2.1
          have m3 := (World.cell?_of_block (a := ⟨w.heap.size, 0, none⟩) mb3).trans hS.2.2.1
          have m4 := (World.cell?_of_block (a := ⟨w.heap.size, 1, none⟩) mb3).trans hS.2.2.2.1
          have m5 := (World.cell?_of_block (a := ⟨w.heap.size, 2, none⟩) mb3).trans hS.2.2.2.2
          clear mb8 mb3
          clear ho18 hg18 hgr hgl18 hlt18 hfz hp18 hvo
          refine HK.out _ _ ⟨.inr ?_, ?_⟩
          · exact ⟨m0, m2, m3, m4, m5⟩
          clear HK K'
          have hS := And.intro (m0) (And.intro (m2) (And.intro (m3) (And.intro (m4) (m5))))
          change wpAnyU _ _ _ _ _ _ _ _ (Act.put _ (some 59) _) _
          simp only [Act.put, List.setIfInBounds_toArray, List.set_cons_succ, List.set_cons_zero]
          refine wpAnyU_take (i := 17) (v := (.pointer (some ⟨g, m * 9, none⟩))) rfl (by kernel_rfl) (fun _ _ _ h => h) (leads_of [[18, 19]] (by kernel_rfl)) (by kernel_rfl) (by kernel_rfl) (by kernel_rfl) (Or.inl ⟨by rfl, ?_⟩) hS ?_
          · intro w' hS'
            obtain ⟨s0, s1, s2, s3, s4⟩ := hS'
            go_simp
          change wpAnyU _ _ _ _ _ _ _ _ (Act.put _ (some 60) _) _
          simp only [Act.put, List.setIfInBounds_toArray, List.set_cons_succ, List.set_cons_zero]
          refine wpAnyU_take (i := 18) (v := (.pointer (some ⟨g, m * 9 + 6, none⟩))) rfl (by kernel_rfl) (fun _ _ _ h => h) (leads_of [[19]] (by kernel_rfl)) (by kernel_rfl) (by kernel_rfl) (by kernel_rfl) (Or.inl ⟨by rfl, ?_⟩) hS ?_
          · intro w' hS'
            obtain ⟨s0, s1, s2, s3, s4⟩ := hS'
            go_simp
          change wpAnyU _ _ _ _ _ _ _ _ (Act.put _ (some 61) _) _
          simp only [Act.put, List.setIfInBounds_toArray, List.set_cons_succ, List.set_cons_zero]
          refine wpAnyU_all (rs := [19]) (by kernel_rfl) (by simp) ?_
          intro j hj
          obtain rfl := List.mem_singleton.1 hj
          clear hj
          refine wpOp_shut rfl (fun K' HK => ?_)
          go_simp
          refine HK.out _ _ ⟨.inl (by decide), ?_⟩
          clear HK K'
          refine wpAnyU_done (by kernel_rfl) ?_ _
          have hpc := HS15.out.pushCut (l := F.vals.take 0) (x := v) HFS9.out HC9.out HF9.out HXL.out HO18.out HG18.out HGL.out HLT.out
          rw [List.set_set] at hpc
          have hS19 := hpc.1
          have hM19 := (SMv.below D1 G9 HB15.out).trans hpc.2
          have r8 := (hM19.keep b8 (Array.getElem?_eq_some_iff.1 R8.out).1 HNF8.out.1 HNF9.out.2.1).trans R8.out
          have r4 := (hM19.keep (w.heap.size + 1) (Array.getElem?_eq_some_iff.1 R4.out).1 HNF.out.1 HNF9.out.1).trans R4.out
          have HM19 := hid (HM9.out.trans hM19)
          have HNF19 : Box (¬ SFoot { G9 with rows := G9.rows.set m (c9.set 6 (.slice (some ⟨ga, 0, none⟩) (0 + 1) capv)) } (w.heap.size + 1)) := hid (fun hf => (hM19.sfoot _ hf).elim HNF9.out.1 (by have := (Array.getElem?_eq_some_iff.1 R4.out).1; omega))
          go_upto_region 11 with fail
          clear hpc hM19 HS15 HO18 HG18 HGL HLT hS m0 m1 m2 m3 m4 m5 k6 u1 y0 y1 y2 R8 R4 HX15 hgn r15 HOwn HB15
          generalize (w18.setCell ⟨g, m * 9 + 6, none⟩ (.slice (some ⟨ga, 0, none⟩) (0 + 1) capv)) = W19 at hS19 HM19 r8 r4 ⊢
          generalize hG19 : ({ G9 with rows := G9.rows.set m (c9.set 6 (.slice (some ⟨ga, 0, none⟩) (0 + 1) capv)) } : SG) = G19 at hS19 HM19 HNF19
          have hfs19 : G19.fsl = .slice (some ⟨g, 0, none⟩) (m + 1) cap := by rw [← hG19]; exact HFS9.out
          clear hG19
          have hF19 := hS19.ok.frameAt (j := m) hfs19 (List.getElem?_set_self (by have := HT.out.1; omega))
          obtain ⟨c19, A19, p19, At19, pt19, hc19, ec19, hcf19, hvX19, htR19⟩ := hF19
          have k1 := hcf19 1 (.int .i64 F.pc) (by rw [ec19]; rfl)
          have k2 := hcf19 2 (.int .i64 F.scope) (by rw [ec19]; rfl)
          have hfz := hS19.ok.fr
          rw [hfs19] at hfz
          have f1 := xr_frozen hfz (m * 9 + 1)
          have f2 := xr_frozen hfz (m * 9 + 2)
          have u0 := (cell_of_row _ _ 0 _ _ _ r8).trans (b := some (Value.int .i64 t.pc)) rfl
          have u2 := (cell_of_row _ _ 2 _ _ _ r8).trans (b := some (Value.int .i64 t.scope)) rfl
          have HS19 := hid hS19
          have HC19 := hid hc19
          have HFS19 := hid hfs19
          have HR4 := hid r4
          clear hS19 hc19 ec19 hcf19 hvX19 htR19 hfs19 hfz r8 r4
          refine wp_region_until [11] (S := (fun w' => w'.cell? ⟨b8, 0, none⟩ = some (.int .i64 t.pc) ∧ w'.cell? ⟨b8, 2, none⟩ = some (.int .i64 t.scope))) (by kernel_rfl) ?_ ?_
          · exact ⟨u0, u2⟩
          intro hS
          refine wpAnyU_take (i := 0) (v := (.pointer (some ⟨g, m * 9, none⟩))) rfl (by kernel_rfl) (fun _ _ _ h => h) (leads_of [[11]] (by kernel_rfl)) (by kernel_rfl) (by kernel_rfl) (by kernel_rfl) (Or.inl ⟨by rfl, ?_⟩) hS ?_
          · intro w' hS'
            obtain ⟨s0, s1⟩ := hS'
            go_simp
          change wpAnyU _ _ _ _ _ _ _ _ (Act.put _ (some 62) _) _
          simp only [Act.put, List.setIfInBounds_toArray, List.set_cons_succ, List.set_cons_zero]
          refine wpAnyU_take (i := 1) (v := (.pointer (some ⟨g, m * 9, none⟩))) rfl (by kernel_rfl) (fun _ _ _ h => h) (leads_of [[11]] (by kernel_rfl)) (by kernel_rfl) (by kernel_rfl) (by kernel_rfl) (Or.inl ⟨by rfl, ?_⟩) hS ?_
          · intro w' hS'
            obtain ⟨s0, s1⟩ := hS'
            go_simp
          change wpAnyU _ _ _ _ _ _ _ _ (Act.put _ (some 63) _) _
          simp only [Act.put, List.setIfInBounds_toArray, List.set_cons_succ, List.set_cons_zero]
          refine wpAnyU_take (i := 2) (v := (.pointer (some ⟨b8, 0, none⟩))) rfl (by kernel_rfl) (fun _ _ _ h => h) (leads_of [[11]] (by kernel_rfl)) (by kernel_rfl) (by kernel_rfl) (by kernel_rfl) (Or.inl ⟨by rfl, ?_⟩) hS ?_
          · intro w' hS'
            obtain ⟨s0, s1⟩ := hS'
            go_simp
          change wpAnyU _ _ _ _ _ _ _ _ (Act.put _ (some 64) _) _
          simp only [Act.put, List.setIfInBounds_toArray, List.set_cons_succ, List.set_cons_zero]
          refine wpAnyU_take (i := 3) (v := (.int .i64 t.pc)) rfl (by kernel_rfl) (fun _ _ _ h => h) (leads_of [[11]] (by kernel_rfl)) (by kernel_rfl) (by kernel_rfl) (by kernel_rfl) (Or.inl ⟨by rfl, ?_⟩) hS ?_
          · intro w' hS'
            obtain ⟨s0, s1⟩ := hS'
            go_simp
          change wpAnyU _ _ _ _ _ _ _ _ (Act.put _ (some 65) _) _
          simp only [Act.put, List.setIfInBounds_toArray, List.set_cons_succ, List.set_cons_zero]
          refine wpAnyU_take (i := 4) (v := (.pointer (some ⟨b8, 2, none⟩))) rfl (by kernel_rfl) (fun _ _ _ h => h) (leads_of [[11]] (by kernel_rfl)) (by kernel_rfl) (by kernel_rfl) (by kernel_rfl) (Or.inl ⟨by rfl, ?_⟩) hS ?_
          · intro w' hS'
            obtain ⟨s0, s1⟩ := hS'
            go_simp
          change wpAnyU _ _ _ _ _ _ _ _ (Act.put _ (some 66) _) _
          simp only [Act.put, List.setIfInBounds_toArray, List.set_cons_succ, List.set_cons_zero]
          refine wpAnyU_take (i := 5) (v := (.int .i64 t.scope)) rfl (by kernel_rfl) (fun _ _ _ h => h) (leads_of [[11]] (by kernel_rfl)) (by kernel_rfl) (by kernel_rfl) (by kernel_rfl) (Or.inl ⟨by rfl, ?_⟩) hS ?_
          · intro w' hS'
            obtain ⟨s0, s1⟩ := hS'
            go_simp
          change wpAnyU _ _ _ _ _ _ _ _ (Act.put _ (some 67) _) _
          simp only [Act.put, List.setIfInBounds_toArray, List.set_cons_succ, List.set_cons_zero]
          refine wpAnyU_take (i := 6) (v := (.pointer (some ⟨g, m * 9, none⟩))) rfl (by kernel_rfl) (fun _ _ _ h => h) (leads_of [[11]] (by kernel_rfl)) (by kernel_rfl) (by kernel_rfl) (by kernel_rfl) (Or.inl ⟨by rfl, ?_⟩) hS ?_
          · intro w' hS'
            obtain ⟨s0, s1⟩ := hS'
            go_simp
          change wpAnyU _ _ _ _ _ _ _ _ (Act.put _ (some 68) _) _
          simp only [Act.put, List.setIfInBounds_toArray, List.set_cons_succ, List.set_cons_zero]
          refine wpAnyU_take (i := 7) (v := (.pointer (some ⟨g, m * 9 + 1, none⟩))) rfl (by kernel_rfl) (fun _ _ _ h => h) (leads_of [[11]] (by kernel_rfl)) (by kernel_rfl) (by kernel_rfl) (by kernel_rfl) (Or.inl ⟨by rfl, ?_⟩) hS ?_
          · intro w' hS'
            obtain ⟨s0, s1⟩ := hS'
            go_simp
          change wpAnyU _ _ _ _ _ _ _ _ (Act.put _ (some 69) _) _
          simp only [Act.put, List.setIfInBounds_toArray, List.set_cons_succ, List.set_cons_zero]
          refine wpAnyU_all (rs := [8]) (by kernel_rfl) (by simp) ?_
          intro j hj
          obtain rfl := List.mem_singleton.1 hj
          clear hj
          refine wpOp_shut rfl (fun K' HK => ?_)
          go_simp
          refine HK.out _ _ ⟨.inr ?_, ?_⟩
          · exact ⟨(World.cell?_of_block (a := ⟨b8, 0, none⟩) (set_ne (i := m * 9 + 1) (.int .i64 t.pc) hM8.symm)).trans hS.1, (World.cell?_of_block (a := ⟨b8, 2, none⟩) (set_ne (i := m * 9 + 1) (.int .i64 t.pc) hM8.symm)).trans hS.2⟩
          clear HK K'
          have hS := And.intro ((World.cell?_of_block (a := ⟨b8, 0, none⟩) (set_ne (i := m * 9 + 1) (.int .i64 t.pc) hM8.symm)).trans hS.1) ((World.cell?_of_block (a := ⟨b8, 2, none⟩) (set_ne (i := m * 9 + 1) (.int .i64 t.pc) hM8.symm)).trans hS.2)
          refine wpAnyU_take (i := 9) (v := (.pointer (some ⟨g, m * 9, none⟩))) rfl (by kernel_rfl) (fun _ _ _ h => h) (leads_of [[10, 11]] (by kernel_rfl)) (by kernel_rfl) (by kernel_rfl) (by kernel_rfl) (Or.inl ⟨by rfl, ?_⟩) hS ?_
          · intro w' hS'
            obtain ⟨s0, s1⟩ := hS'
            go_simp
          change wpAnyU _ _ _ _ _ _ _ _ (Act.put _ (some 70) _) _
          simp only [Act.put, List.setIfInBounds_toArray, List.set_cons_succ, List.set_cons_zero]
          refine wpAnyU_take (i := 10) (v := (.pointer (some ⟨g, m * 9 + 2, none⟩))) rfl (by kernel_rfl) (fun _ _ _ h => h) (leads_of [[11]] (by kernel_rfl)) (by kernel_rfl) (by kernel_rfl) (by kernel_rfl) (Or.inl ⟨by rfl, ?_⟩) hS ?_
          · intro w' hS'
            obtain ⟨s0, s1⟩ := hS'
            go_simp
          change wpAnyU _ _ _ _ _ _ _ _ (Act.put _ (some 71) _) _
          simp only [Act.put, List.setIfInBounds_toArray, List.set_cons_succ, List.set_cons_zero]
          refine wpAnyU_all (rs := [11]) (by kernel_rfl) (by simp) ?_
          intro j hj
          obtain rfl := List.mem_singleton.1 hj
          clear hj
          refine wpOp_shut rfl (fun K' HK => ?_)
          go_simp
          refine HK.out _ _ ⟨.inl (by decide), ?_⟩
          clear HK K'
          refine wpAnyU_done (by kernel_rfl) ?_ _
          have hfx := (HS19.out.below (Below.refl W19.heap.size W19).drew).ok.row m _ c19 (List.getElem?_set_self (by have := HT.out.1; omega)) HC19.out
          have hA := (HS19.out.below (Below.refl W19.heap.size W19).drew).frSet HFS19.out HC19.out (k := 1) (u := .int .i64 t.pc) (by decide) (hfx.pcSet t.pc) (fun b hb => by rw [valsOf_set (by decide)] at hb; exact hb)
          rw [List.set_set] at hA
          have hlr : m < G19.rows.length := (List.getElem?_eq_some_iff.1 HC19.out).1
          have hfx2 := hA.1.ok.row m _ (c19.set 1 (.int .i64 t.pc)) (List.getElem?_set_self (by have := HT.out.1; omega)) (List.getElem?_set_self hlr)
          have hB := hA.1.frSet HFS19.out (List.getElem?_set_self hlr) (k := 2) (u := .int .i64 t.scope) (by decide) (hfx2.scSet t.scope) (fun b hb => by rw [valsOf_set (by decide)] at hb; exact hb)
          simp only [List.set_set] at hB
          have HS21 := hid hB.1
          have HM21 := hid (((HM19.out.trans (SMv.below D1 G19 (Below.refl W19.heap.size W19).drew)).trans hA.2).trans hB.2)
          have HNF21 := hid (fun hf => (hB.2.sfoot (w.heap.size + 1) hf).elim (fun hf => (hA.2.sfoot _ hf).elim HNF19.out (by have := (Array.getElem?_eq_some_iff.1 HR4.out).1; show ¬ (W19.heap.size ≤ w.heap.size + 1); omega)) (by have := (Array.getElem?_eq_some_iff.1 HR4.out).1; rw [show ((W19.drew.setCell ⟨g, m * 9 + 1, none⟩ (.int .i64 t.pc)).heap.size) = W19.heap.size by simp]; omega))
          have r4 : ((W19.drew.setCell ⟨g, m * 9 + 1, none⟩ (.int .i64 t.pc)).setCell ⟨g, m * 9 + 2, none⟩ (.int .i64 t.scope)).heap[w.heap.size + 1]? = some (.cells #[.int .i64 0, .int .i64 0, .string ⟨#[]⟩] 33) := (set_ne _ hMg.symm).trans ((set_ne _ hMg.symm).trans HR4.out)
          clear hA hB hfx hfx2 k1 k2 f1 f2 u0 u2 hS HS19 HM19 HC19
          rw [show ((W19.setCell ⟨g, m * 9 + 1, none⟩ (.int .i64 t.pc)).setCell ⟨g, m * 9 + 2, none⟩ (.int .i64 t.scope)).drew = (W19.drew.setCell ⟨g, m * 9 + 1, none⟩ (.int .i64 t.pc)).setCell ⟨g, m * 9 + 2, none⟩ (.int .i64 t.scope) from rfl]
          generalize ((W19.drew.setCell ⟨g, m * 9 + 1, none⟩ (.int .i64 t.pc)).setCell ⟨g, m * 9 + 2, none⟩ (.int .i64 t.scope)) = W21 at HS21 HM21 r4 ⊢
          have x0 := (cell_of_row _ _ 0 _ _ _ r4).trans (b := some (Value.int .i64 0)) rfl
          have x1 := (cell_of_row _ _ 1 _ _ _ r4).trans (b := some (Value.int .i64 0)) rfl
          have x2 := (cell_of_row _ _ 2 _ _ _ r4).trans (b := some (Value.string ⟨#[]⟩)) rfl
          have f0 : W21.frozen? ⟨w.heap.size + 1, 0, none⟩ = false := by simp [World.frozen?, r4]
          have f1 : W21.frozen? ⟨w.heap.size + 1, 1, none⟩ = false := by simp [World.frozen?, r4]
          have f2 : W21.frozen? ⟨w.heap.size + 1, 2, none⟩ = false := by simp [World.frozen?, r4]
          have hrow : (((W21.setCell ⟨w.heap.size + 1, 0, none⟩ (.int .i64 0)).setCell ⟨w.heap.size + 1, 1, none⟩ (.int .i64 0)).setCell ⟨w.heap.size + 1, 2, none⟩ (.string ⟨#[]⟩)).heap[w.heap.size + 1]? = some (.cells #[.int .i64 0, .int .i64 0, .string ⟨#[]⟩] 33) := (set_at (set_at (set_at r4 _) _) _).trans rfl
          have HFin := hid (HS21.out.free3 (b := w.heap.size + 1) (.int .i64 0) (.int .i64 0) (.string ⟨#[]⟩) (.inl (.inr rfl)) (Typ.of r4) HNF.out.1 HNF21.out (Nat.le_succ_of_le HF3.out.2.2.2.2))
          have HMin := hid (((HM21.out.freeSet (b := w.heap.size + 1) (o := 0) (u := .int .i64 0) (Nat.le_succ _)).freeSet (b := w.heap.size + 1) (o := 1) (u := .int .i64 0) (Nat.le_succ _)).freeSet (b := w.heap.size + 1) (o := 2) (u := .string ⟨#[]⟩) (Nat.le_succ _))
          have HRow := hid hrow
          clear hrow r4 HS21 HM21
          go_wp2_with fail
          have z0 := (cell_of_row _ _ 0 _ _ _ HRow.out).trans (b := some (Value.int .i64 0)) rfl
          have z1 := (cell_of_row _ _ 1 _ _ _ HRow.out).trans (b := some (Value.int .i64 0)) rfl
          have z2 := (cell_of_row _ _ 2 _ _ _ HRow.out).trans (b := some (Value.string ByteArray.empty)) rfl
          rw [HPure.out]
          unfold tryTo
          rw [HXT.out]
          refine bodyPost_ret (v := .tuple #[undefV.agg, .bool false]) (by simp [results, Try.results21, go_sem, z0, z1, z2, VD.agg, undefV]) rfl ⟨rfl, _, _, _, HFin.out, HMin.out⟩
        · injection e with e1 e2 e3
          subst e1 e3
          clear e2
          have hxp : ¬ p9 < x := by omega
          have HXR := hid (xr_take HVX9.out (m := x) (by simp only; omega))
          refine wp_region_until [19] (S := (fun w' => w'.cell? ⟨g, m * 9 + 6, none⟩ = some (.slice (some ⟨gv, 0, none⟩) F.vals.length p9) ∧ w'.cell? ⟨b8, 1, none⟩ = some (.int .i64 t.vals) ∧ w'.cell? ⟨w.heap.size, 0, none⟩ = some (.int .i64 v.kind) ∧ w'.cell? ⟨w.heap.size, 1, none⟩ = some (.int .i64 v.n) ∧ w'.cell? ⟨w.heap.size, 2, none⟩ = some (.string v.s))) (by kernel_rfl) ?_ ?_
          · exact ⟨k6, u1, y0, y1, y2⟩
          intro hS
          refine wpAnyU_take (i := 0) (v := (.pointer (some ⟨g, m * 9, none⟩))) rfl (by kernel_rfl) (fun _ _ _ h => h) (leads_of [[19]] (by kernel_rfl)) (by kernel_rfl) (by kernel_rfl) (by kernel_rfl) (Or.inl ⟨by rfl, ?_⟩) hS ?_
          · intro w' hS'
            obtain ⟨s0, s1, s2, s3, s4⟩ := hS'
            go_simp
          change wpAnyU _ _ _ _ _ _ _ _ (Act.put _ (some 43) _) _
          simp only [Act.put, List.setIfInBounds_toArray, List.set_cons_succ, List.set_cons_zero]
          refine wpAnyU_take (i := 1) (v := (.pointer (some ⟨g, m * 9, none⟩))) rfl (by kernel_rfl) (fun _ _ _ h => h) (leads_of [[19]] (by kernel_rfl)) (by kernel_rfl) (by kernel_rfl) (by kernel_rfl) (Or.inl ⟨by rfl, ?_⟩) hS ?_
          · intro w' hS'
            obtain ⟨s0, s1, s2, s3, s4⟩ := hS'
            go_simp
          change wpAnyU _ _ _ _ _ _ _ _ (Act.put _ (some 44) _) _
          simp only [Act.put, List.setIfInBounds_toArray, List.set_cons_succ, List.set_cons_zero]
          refine wpAnyU_take (i := 2) (v := (.pointer (some ⟨g, m * 9, none⟩))) rfl (by kernel_rfl) (fun _ _ _ h => h) (leads_of [[19]] (by kernel_rfl)) (by kernel_rfl) (by kernel_rfl) (by kernel_rfl) (Or.inl ⟨by rfl, ?_⟩) hS ?_
          · intro w' hS'
            obtain ⟨s0, s1, s2, s3, s4⟩ := hS'
            go_simp
          change wpAnyU _ _ _ _ _ _ _ _ (Act.put _ (some 45) _) _
          simp only [Act.put, List.setIfInBounds_toArray, List.set_cons_succ, List.set_cons_zero]
          refine wpAnyU_take (i := 3) (v := (.pointer (some ⟨g, m * 9 + 6, none⟩))) rfl (by kernel_rfl) (fun _ _ _ h => h) (leads_of [[19]] (by kernel_rfl)) (by kernel_rfl) (by kernel_rfl) (by kernel_rfl) (Or.inl ⟨by rfl, ?_⟩) hS ?_
          · intro w' hS'
            obtain ⟨s0, s1, s2, s3, s4⟩ := hS'
            go_simp
          change wpAnyU _ _ _ _ _ _ _ _ (Act.put _ (some 46) _) _
          simp only [Act.put, List.setIfInBounds_toArray, List.set_cons_succ, List.set_cons_zero]
          refine wpAnyU_take (i := 4) (v := (.slice (some ⟨gv, 0, none⟩) F.vals.length p9)) rfl (by kernel_rfl) (fun _ _ _ h => h) (leads_of [[19]] (by kernel_rfl)) (by kernel_rfl) (by kernel_rfl) (by kernel_rfl) (Or.inl ⟨by rfl, ?_⟩) hS ?_
          · intro w' hS'
            obtain ⟨s0, s1, s2, s3, s4⟩ := hS'
            go_simp
          change wpAnyU _ _ _ _ _ _ _ _ (Act.put _ (some 47) _) _
          simp only [Act.put, List.setIfInBounds_toArray, List.set_cons_succ, List.set_cons_zero]
          refine wpAnyU_take (i := 5) (v := (.pointer (some ⟨g, m * 9, none⟩))) rfl (by kernel_rfl) (fun _ _ _ h => h) (leads_of [[19]] (by kernel_rfl)) (by kernel_rfl) (by kernel_rfl) (by kernel_rfl) (Or.inl ⟨by rfl, ?_⟩) hS ?_
          · intro w' hS'
            obtain ⟨s0, s1, s2, s3, s4⟩ := hS'
            go_simp
          change wpAnyU _ _ _ _ _ _ _ _ (Act.put _ (some 48) _) _
          simp only [Act.put, List.setIfInBounds_toArray, List.set_cons_succ, List.set_cons_zero]
          refine wpAnyU_take (i := 6) (v := (.pointer (some ⟨g, m * 9, none⟩))) rfl (by kernel_rfl) (fun _ _ _ h => h) (leads_of [[19]] (by kernel_rfl)) (by kernel_rfl) (by kernel_rfl) (by kernel_rfl) (Or.inl ⟨by rfl, ?_⟩) hS ?_
          · intro w' hS'
            obtain ⟨s0, s1, s2, s3, s4⟩ := hS'
            go_simp
          change wpAnyU _ _ _ _ _ _ _ _ (Act.put _ (some 49) _) _
          simp only [Act.put, List.setIfInBounds_toArray, List.set_cons_succ, List.set_cons_zero]
          refine wpAnyU_take (i := 7) (v := (.pointer (some ⟨g, m * 9 + 6, none⟩))) rfl (by kernel_rfl) (fun _ _ _ h => h) (leads_of [[19]] (by kernel_rfl)) (by kernel_rfl) (by kernel_rfl) (by kernel_rfl) (Or.inl ⟨by rfl, ?_⟩) hS ?_
          · intro w' hS'
            obtain ⟨s0, s1, s2, s3, s4⟩ := hS'
            go_simp
          change wpAnyU _ _ _ _ _ _ _ _ (Act.put _ (some 50) _) _
          simp only [Act.put, List.setIfInBounds_toArray, List.set_cons_succ, List.set_cons_zero]
          refine wpAnyU_take (i := 8) (v := (.slice (some ⟨gv, 0, none⟩) F.vals.length p9)) rfl (by kernel_rfl) (fun _ _ _ h => h) (leads_of [[19]] (by kernel_rfl)) (by kernel_rfl) (by kernel_rfl) (by kernel_rfl) (Or.inl ⟨by rfl, ?_⟩) hS ?_
          · intro w' hS'
            obtain ⟨s0, s1, s2, s3, s4⟩ := hS'
            go_simp
          change wpAnyU _ _ _ _ _ _ _ _ (Act.put _ (some 51) _) _
          simp only [Act.put, List.setIfInBounds_toArray, List.set_cons_succ, List.set_cons_zero]
          refine wpAnyU_take (i := 9) (v := (.int .i64 (F.vals.length : Nat))) rfl (by kernel_rfl) (fun _ _ _ h => h) (leads_of [[19]] (by kernel_rfl)) (by kernel_rfl) (by kernel_rfl) (by kernel_rfl) (Or.inl ⟨by rfl, ?_⟩) hS ?_
          · intro w' hS'
            obtain ⟨s0, s1, s2, s3, s4⟩ := hS'
            go_simp
          change wpAnyU _ _ _ _ _ _ _ _ (Act.put _ (some 52) _) _
          simp only [Act.put, List.setIfInBounds_toArray, List.set_cons_succ, List.set_cons_zero]
          refine wpAnyU_take (i := 10) (v := (.pointer (some ⟨b8, 1, none⟩))) rfl (by kernel_rfl) (fun _ _ _ h => h) (leads_of [[19]] (by kernel_rfl)) (by kernel_rfl) (by kernel_rfl) (by kernel_rfl) (Or.inl ⟨by rfl, ?_⟩) hS ?_
          · intro w' hS'
            obtain ⟨s0, s1, s2, s3, s4⟩ := hS'
            go_simp
          change wpAnyU _ _ _ _ _ _ _ _ (Act.put _ (some 53) _) _
          simp only [Act.put, List.setIfInBounds_toArray, List.set_cons_succ, List.set_cons_zero]
          refine wpAnyU_take (i := 11) (v := (.int .i64 t.vals)) rfl (by kernel_rfl) (fun _ _ _ h => h) (leads_of [[19]] (by kernel_rfl)) (by kernel_rfl) (by kernel_rfl) (by kernel_rfl) (Or.inl ⟨by rfl, ?_⟩) hS ?_
          · intro w' hS'
            obtain ⟨s0, s1, s2, s3, s4⟩ := hS'
            go_simp
          change wpAnyU _ _ _ _ _ _ _ _ (Act.put _ (some 54) _) _
          simp only [Act.put, List.setIfInBounds_toArray, List.set_cons_succ, List.set_cons_zero]
          refine wpAnyU_take (i := 12) (v := (.int .i64 (x : Nat))) rfl (by kernel_rfl) (fun _ _ _ h => h) (leads_of [[19]] (by kernel_rfl)) (by kernel_rfl) (by kernel_rfl) (by kernel_rfl) (Or.inl ⟨by rfl, ?_⟩) hS ?_
          · intro w' hS'
            obtain ⟨s0, s1, s2, s3, s4⟩ := hS'
            go_simp
          change wpAnyU _ _ _ _ _ _ _ _ (Act.put _ (some 55) _) _
          simp only [Act.put, List.setIfInBounds_toArray, List.set_cons_succ, List.set_cons_zero]
          refine wpAnyU_take (i := 13) (v := (.slice (some ⟨gv, 0, none⟩) x p9)) rfl (by kernel_rfl) (fun _ _ _ h => h) (leads_of [[19]] (by kernel_rfl)) (by kernel_rfl) (by kernel_rfl) (by kernel_rfl) (Or.inl ⟨by rfl, ?_⟩) hS ?_
          · intro w' hS'
            obtain ⟨s0, s1, s2, s3, s4⟩ := hS'
            go_simp
          change wpAnyU _ _ _ _ _ _ _ _ (Act.put _ (some 56) _) _
          simp only [Act.put, List.setIfInBounds_toArray, List.set_cons_succ, List.set_cons_zero]
          refine wpAnyU_take (i := 14) (v := (.agg #[.int .i64 v.kind, .int .i64 v.n, .string v.s])) rfl (by kernel_rfl) (fun _ _ _ h => h) (leads_of [[19]] (by kernel_rfl)) (by kernel_rfl) (by kernel_rfl) (by kernel_rfl) (Or.inl ⟨by rfl, ?_⟩) hS ?_
          · intro w' hS'
            obtain ⟨s0, s1, s2, s3, s4⟩ := hS'
            go_simp
          change wpAnyU _ _ _ _ _ _ _ _ (Act.put _ (some 57) _) _
          simp only [Act.put, List.setIfInBounds_toArray, List.set_cons_succ, List.set_cons_zero]
          refine wpAnyU_all (rs := [15]) (by kernel_rfl) (by simp) ?_
          intro j hj
          obtain rfl := List.mem_singleton.1 hj
          clear hj
          refine wpOp_shut rfl (fun K' HK => ?_)
          go_simp
          have HB15 := hid (below_drew ((Below.refl W9.drew.heap.size W9.drew).alloc (Nat.le_refl _) (.cells #[.int .i64 v.kind, .int .i64 v.n, .string v.s] 33)))
          have r15 := heap_alloc_new W9.drew (.cells #[.int .i64 v.kind, .int .i64 v.n, .string v.s] 33)
          refine HK.out _ _ ⟨.inr ?_, ?_⟩
          · exact ⟨keepc HB15.out k6, keepc HB15.out u1, keepc HB15.out y0, keepc HB15.out y1, keepc HB15.out y2⟩
          clear HK K'
          have hS := And.intro (keepc HB15.out k6) (And.intro (keepc HB15.out u1) (And.intro (keepc HB15.out y0) (And.intro (keepc HB15.out y1) (keepc HB15.out y2))))
          try simp only [Act.put, List.setIfInBounds_toArray, List.set_cons_succ, List.set_cons_zero]
          refine wpAnyU_all (rs := [16]) (by kernel_rfl) (by simp) ?_
          intro j hj
          obtain rfl := List.mem_singleton.1 hj
          clear hj
          refine wpOp_shut rfl (fun K' HK => ?_)
          have HS15 := hid (HS9.out.below HB15.out)
          have hown : (W9.drew.alloc (.cells #[.int .i64 v.kind, .int .i64 v.n, .string v.s] 33)).ownsRow (B.plus (w.heap.size + 1)) 33 3 (.slice (some ⟨gv, 0, none⟩) x p9) (x) ((F.vals.take x).map VD.row).flatten := by have := (HXR.out.keep (Ext.refl _ W9.heap.size) (fun k hk => HB15.out.block k (HXR.out.typ hk).1.lt)).own; rwa [← List.map_take, List.length_map, HXL.out] at this
          have HOwn := hid hown
          clear hown
          refine step_append_lies _ (by rfl) (.tmp 56) (.tmp 58) 31 (by rfl) (B.plus (w.heap.size + 1)) 33 i0 (.agg #[.int .i64 0, .int .i64 0, .string ByteArray.empty]) 3 32 Try.underlying31 HI.out hz0 hz1 hz2 rfl (by decide) (.slice (some ⟨gv, 0, none⟩) x p9) (x) ((F.vals.take x).map VD.row).flatten ?c1 ?c2 ⟨W9.heap.size, 0, none⟩ 1 1 v.row ?c3 rfl ?c4 ?c5 (by decide) ?c6 ?c7 ?c8 _ rfl ?_
          (case c1 => rfl)
          (case c2 => exact HOwn.out)
          (case c3 => rfl)
          (case c4 => exact World.news_of_block r15)
          (case c5 => simp [VD.row, Value.oneCell'])
          (case c6 => unfold maxLen; omega)
          (case c7 => omega)
          (case c8 => exact Nat.le_trans HS15.out.ok.base (Nat.le_of_lt (HS15.out.ok.foot_lt (.inl rfl)).1))
          intro ga capv w18 ho18 hg18 hgl18 hlt18
          have HX15 := hid ((HS15.out.ok.row m _ c9 HF9.out HC9.out).vals)
          have hvo : (valsOf c9) = .slice ((some ⟨gv, 0, none⟩)) F.vals.length p9 := by rw [HEC9.out]; rfl
          have hgn : (valsOf c9).ownBlock ≠ some g := fun e => absurd ((HX15.out.typ e).1.uniq (HS15.out.ok.fr.typ (k := g) (by rw [HFS9.out]; rfl)).1) (by decide)
          have hgr : (W9.drew.alloc (.cells #[.int .i64 v.kind, .int .i64 v.n, .string v.s] 33)).grownBy w18 (valsOf c9).ownBlock := by rw [hvo]; exact hg18
          have hp18 : w18.heap[g]? = (W9.drew.alloc (.cells #[.int .i64 v.kind, .int .i64 v.n, .string v.s] 33)).heap[g]? := hgr.block _ (Nat.lt_of_lt_of_le (block_lt_of_cell k6) HB15.out.size) (fun e => hgn e.symm)
          have hfz : (W9.drew.alloc (.cells #[.int .i64 v.kind, .int .i64 v.n, .string v.s] 33)).frozen? ⟨g, m * 9 + 6, none⟩ = false := by
            have h1 := HS15.out.ok.fr
            rw [HFS9.out] at h1
            exact xr_frozen h1 _
          have m0 := (World.cell?_of_block (a := ⟨g, m * 9 + 6, none⟩) hp18).trans hS.1
          have m1 : w18.frozen? ⟨g, m * 9 + 6, none⟩ = false := (World.frozen?_of_block (a := ⟨g, m * 9 + 6, none⟩) hp18).trans hfz
          have HO18 := hid ho18
          have HG18 := hid hgr
          have HGL := hid (show (valsOf c9).ownBlock = some ga ∨ ga = (W9.drew.alloc (.cells #[.int .i64 v.kind, .int .i64 v.n, .string v.s] 33)).heap.size by rw [hvo]; exact hgl18)
          have HLT := hid hlt18
          have mb8 := HG18.out.block b8 (Nat.lt_of_lt_of_le (block_lt_of_cell u1) HB15.out.size) (fun e => HNF9.out.2.1 (.inr (.inr (.inl ⟨c9, List.mem_of_getElem? HC9.out, e.symm⟩))))
          have mb3 := HG18.out.block w.heap.size (Nat.lt_of_lt_of_le (block_lt_of_cell y0) HB15.out.size) (fun e => HNF9.out.2.2 (.inr (.inr (.inl ⟨c9, List.mem_of_getElem? HC9.out, e.symm⟩))))
          have m2 := (World.cell?_of_block (a := ⟨b8, 1, none⟩) mb8).trans hS.2.1
          have m3 := (World.cell?_of_block (a := ⟨w.heap.size, 0, none⟩) mb3).trans hS.2.2.1
          have m4 := (World.cell?_of_block (a := ⟨w.heap.size, 1, none⟩) mb3).trans hS.2.2.2.1
          have m5 := (World.cell?_of_block (a := ⟨w.heap.size, 2, none⟩) mb3).trans hS.2.2.2.2
          clear mb8 mb3
          clear ho18 hg18 hgr hgl18 hlt18 hfz hp18 hvo
          refine HK.out _ _ ⟨.inr ?_, ?_⟩
          · exact ⟨m0, m2, m3, m4, m5⟩
          clear HK K'
          have hS := And.intro (m0) (And.intro (m2) (And.intro (m3) (And.intro (m4) (m5))))
          change wpAnyU _ _ _ _ _ _ _ _ (Act.put _ (some 59) _) _
          simp only [Act.put, List.setIfInBounds_toArray, List.set_cons_succ, List.set_cons_zero]
          refine wpAnyU_take (i := 17) (v := (.pointer (some ⟨g, m * 9, none⟩))) rfl (by kernel_rfl) (fun _ _ _ h => h) (leads_of [[18, 19]] (by kernel_rfl)) (by kernel_rfl) (by kernel_rfl) (by kernel_rfl) (Or.inl ⟨by rfl, ?_⟩) hS ?_
          · intro w' hS'
            obtain ⟨s0, s1, s2, s3, s4⟩ := hS'
            go_simp
          change wpAnyU _ _ _ _ _ _ _ _ (Act.put _ (some 60) _) _
          simp only [Act.put, List.setIfInBounds_toArray, List.set_cons_succ, List.set_cons_zero]
          refine wpAnyU_take (i := 18) (v := (.pointer (some ⟨g, m * 9 + 6, none⟩))) rfl (by kernel_rfl) (fun _ _ _ h => h) (leads_of [[19]] (by kernel_rfl)) (by kernel_rfl) (by kernel_rfl) (by kernel_rfl) (Or.inl ⟨by rfl, ?_⟩) hS ?_
          · intro w' hS'
            obtain ⟨s0, s1, s2, s3, s4⟩ := hS'
            go_simp
          change wpAnyU _ _ _ _ _ _ _ _ (Act.put _ (some 61) _) _
          simp only [Act.put, List.setIfInBounds_toArray, List.set_cons_succ, List.set_cons_zero]
          refine wpAnyU_all (rs := [19]) (by kernel_rfl) (by simp) ?_
          intro j hj
          obtain rfl := List.mem_singleton.1 hj
          clear hj
          refine wpOp_shut rfl (fun K' HK => ?_)
          go_simp
          refine HK.out _ _ ⟨.inl (by decide), ?_⟩
          clear HK K'
          refine wpAnyU_done (by kernel_rfl) ?_ _
          have hpc := HS15.out.pushCut (l := F.vals.take x) (x := v) HFS9.out HC9.out HF9.out HXL.out HO18.out HG18.out HGL.out HLT.out
          rw [List.set_set] at hpc
          have hS19 := hpc.1
          have hM19 := (SMv.below D1 G9 HB15.out).trans hpc.2
          have r8 := (hM19.keep b8 (Array.getElem?_eq_some_iff.1 R8.out).1 HNF8.out.1 HNF9.out.2.1).trans R8.out
          have r4 := (hM19.keep (w.heap.size + 1) (Array.getElem?_eq_some_iff.1 R4.out).1 HNF.out.1 HNF9.out.1).trans R4.out
          have HM19 := hid (HM9.out.trans hM19)
          have HNF19 : Box (¬ SFoot { G9 with rows := G9.rows.set m (c9.set 6 (.slice (some ⟨ga, 0, none⟩) (x + 1) capv)) } (w.heap.size + 1)) := hid (fun hf => (hM19.sfoot _ hf).elim HNF9.out.1 (by have := (Array.getElem?_eq_some_iff.1 R4.out).1; omega))
          go_upto_region 11 with fail
          clear hpc hM19 HS15 HO18 HG18 HGL HLT hS m0 m1 m2 m3 m4 m5 k6 u1 y0 y1 y2 R8 R4 HX15 hgn r15 HOwn HB15
          generalize (w18.setCell ⟨g, m * 9 + 6, none⟩ (.slice (some ⟨ga, 0, none⟩) (x + 1) capv)) = W19 at hS19 HM19 r8 r4 ⊢
          generalize hG19 : ({ G9 with rows := G9.rows.set m (c9.set 6 (.slice (some ⟨ga, 0, none⟩) (x + 1) capv)) } : SG) = G19 at hS19 HM19 HNF19
          have hfs19 : G19.fsl = .slice (some ⟨g, 0, none⟩) (m + 1) cap := by rw [← hG19]; exact HFS9.out
          clear hG19
          have hF19 := hS19.ok.frameAt (j := m) hfs19 (List.getElem?_set_self (by have := HT.out.1; omega))
          obtain ⟨c19, A19, p19, At19, pt19, hc19, ec19, hcf19, hvX19, htR19⟩ := hF19
          have k1 := hcf19 1 (.int .i64 F.pc) (by rw [ec19]; rfl)
          have k2 := hcf19 2 (.int .i64 F.scope) (by rw [ec19]; rfl)
          have hfz := hS19.ok.fr
          rw [hfs19] at hfz
          have f1 := xr_frozen hfz (m * 9 + 1)
          have f2 := xr_frozen hfz (m * 9 + 2)
          have u0 := (cell_of_row _ _ 0 _ _ _ r8).trans (b := some (Value.int .i64 t.pc)) rfl
          have u2 := (cell_of_row _ _ 2 _ _ _ r8).trans (b := some (Value.int .i64 t.scope)) rfl
          have HS19 := hid hS19
          have HC19 := hid hc19
          have HFS19 := hid hfs19
          have HR4 := hid r4
          clear hS19 hc19 ec19 hcf19 hvX19 htR19 hfs19 hfz r8 r4
          refine wp_region_until [11] (S := (fun w' => w'.cell? ⟨b8, 0, none⟩ = some (.int .i64 t.pc) ∧ w'.cell? ⟨b8, 2, none⟩ = some (.int .i64 t.scope))) (by kernel_rfl) ?_ ?_
          · exact ⟨u0, u2⟩
          intro hS
          refine wpAnyU_take (i := 0) (v := (.pointer (some ⟨g, m * 9, none⟩))) rfl (by kernel_rfl) (fun _ _ _ h => h) (leads_of [[11]] (by kernel_rfl)) (by kernel_rfl) (by kernel_rfl) (by kernel_rfl) (Or.inl ⟨by rfl, ?_⟩) hS ?_
          · intro w' hS'
            obtain ⟨s0, s1⟩ := hS'
            go_simp
          change wpAnyU _ _ _ _ _ _ _ _ (Act.put _ (some 62) _) _
          simp only [Act.put, List.setIfInBounds_toArray, List.set_cons_succ, List.set_cons_zero]
          refine wpAnyU_take (i := 1) (v := (.pointer (some ⟨g, m * 9, none⟩))) rfl (by kernel_rfl) (fun _ _ _ h => h) (leads_of [[11]] (by kernel_rfl)) (by kernel_rfl) (by kernel_rfl) (by kernel_rfl) (Or.inl ⟨by rfl, ?_⟩) hS ?_
          · intro w' hS'
            obtain ⟨s0, s1⟩ := hS'
            go_simp
          change wpAnyU _ _ _ _ _ _ _ _ (Act.put _ (some 63) _) _
          simp only [Act.put, List.setIfInBounds_toArray, List.set_cons_succ, List.set_cons_zero]
          refine wpAnyU_take (i := 2) (v := (.pointer (some ⟨b8, 0, none⟩))) rfl (by kernel_rfl) (fun _ _ _ h => h) (leads_of [[11]] (by kernel_rfl)) (by kernel_rfl) (by kernel_rfl) (by kernel_rfl) (Or.inl ⟨by rfl, ?_⟩) hS ?_
          · intro w' hS'
            obtain ⟨s0, s1⟩ := hS'
            go_simp
          change wpAnyU _ _ _ _ _ _ _ _ (Act.put _ (some 64) _) _
          simp only [Act.put, List.setIfInBounds_toArray, List.set_cons_succ, List.set_cons_zero]
          refine wpAnyU_take (i := 3) (v := (.int .i64 t.pc)) rfl (by kernel_rfl) (fun _ _ _ h => h) (leads_of [[11]] (by kernel_rfl)) (by kernel_rfl) (by kernel_rfl) (by kernel_rfl) (Or.inl ⟨by rfl, ?_⟩) hS ?_
          · intro w' hS'
            obtain ⟨s0, s1⟩ := hS'
            go_simp
          change wpAnyU _ _ _ _ _ _ _ _ (Act.put _ (some 65) _) _
          simp only [Act.put, List.setIfInBounds_toArray, List.set_cons_succ, List.set_cons_zero]
          refine wpAnyU_take (i := 4) (v := (.pointer (some ⟨b8, 2, none⟩))) rfl (by kernel_rfl) (fun _ _ _ h => h) (leads_of [[11]] (by kernel_rfl)) (by kernel_rfl) (by kernel_rfl) (by kernel_rfl) (Or.inl ⟨by rfl, ?_⟩) hS ?_
          · intro w' hS'
            obtain ⟨s0, s1⟩ := hS'
            go_simp
          change wpAnyU _ _ _ _ _ _ _ _ (Act.put _ (some 66) _) _
          simp only [Act.put, List.setIfInBounds_toArray, List.set_cons_succ, List.set_cons_zero]
          refine wpAnyU_take (i := 5) (v := (.int .i64 t.scope)) rfl (by kernel_rfl) (fun _ _ _ h => h) (leads_of [[11]] (by kernel_rfl)) (by kernel_rfl) (by kernel_rfl) (by kernel_rfl) (Or.inl ⟨by rfl, ?_⟩) hS ?_
          · intro w' hS'
            obtain ⟨s0, s1⟩ := hS'
            go_simp
          change wpAnyU _ _ _ _ _ _ _ _ (Act.put _ (some 67) _) _
          simp only [Act.put, List.setIfInBounds_toArray, List.set_cons_succ, List.set_cons_zero]
          refine wpAnyU_take (i := 6) (v := (.pointer (some ⟨g, m * 9, none⟩))) rfl (by kernel_rfl) (fun _ _ _ h => h) (leads_of [[11]] (by kernel_rfl)) (by kernel_rfl) (by kernel_rfl) (by kernel_rfl) (Or.inl ⟨by rfl, ?_⟩) hS ?_
          · intro w' hS'
            obtain ⟨s0, s1⟩ := hS'
            go_simp
          change wpAnyU _ _ _ _ _ _ _ _ (Act.put _ (some 68) _) _
          simp only [Act.put, List.setIfInBounds_toArray, List.set_cons_succ, List.set_cons_zero]
          refine wpAnyU_take (i := 7) (v := (.pointer (some ⟨g, m * 9 + 1, none⟩))) rfl (by kernel_rfl) (fun _ _ _ h => h) (leads_of [[11]] (by kernel_rfl)) (by kernel_rfl) (by kernel_rfl) (by kernel_rfl) (Or.inl ⟨by rfl, ?_⟩) hS ?_
          · intro w' hS'
            obtain ⟨s0, s1⟩ := hS'
            go_simp
          change wpAnyU _ _ _ _ _ _ _ _ (Act.put _ (some 69) _) _
          simp only [Act.put, List.setIfInBounds_toArray, List.set_cons_succ, List.set_cons_zero]
          refine wpAnyU_all (rs := [8]) (by kernel_rfl) (by simp) ?_
          intro j hj
          obtain rfl := List.mem_singleton.1 hj
          clear hj
          refine wpOp_shut rfl (fun K' HK => ?_)
          go_simp
          refine HK.out _ _ ⟨.inr ?_, ?_⟩
          · exact ⟨(World.cell?_of_block (a := ⟨b8, 0, none⟩) (set_ne (i := m * 9 + 1) (.int .i64 t.pc) hM8.symm)).trans hS.1, (World.cell?_of_block (a := ⟨b8, 2, none⟩) (set_ne (i := m * 9 + 1) (.int .i64 t.pc) hM8.symm)).trans hS.2⟩
          clear HK K'
          have hS := And.intro ((World.cell?_of_block (a := ⟨b8, 0, none⟩) (set_ne (i := m * 9 + 1) (.int .i64 t.pc) hM8.symm)).trans hS.1) ((World.cell?_of_block (a := ⟨b8, 2, none⟩) (set_ne (i := m * 9 + 1) (.int .i64 t.pc) hM8.symm)).trans hS.2)
          refine wpAnyU_take (i := 9) (v := (.pointer (some ⟨g, m * 9, none⟩))) rfl (by kernel_rfl) (fun _ _ _ h => h) (leads_of [[10, 11]] (by kernel_rfl)) (by kernel_rfl) (by kernel_rfl) (by kernel_rfl) (Or.inl ⟨by rfl, ?_⟩) hS ?_
          · intro w' hS'
            obtain ⟨s0, s1⟩ := hS'
            go_simp
          change wpAnyU _ _ _ _ _ _ _ _ (Act.put _ (some 70) _) _
          simp only [Act.put, List.setIfInBounds_toArray, List.set_cons_succ, List.set_cons_zero]
          refine wpAnyU_take (i := 10) (v := (.pointer (some ⟨g, m * 9 + 2, none⟩))) rfl (by kernel_rfl) (fun _ _ _ h => h) (leads_of [[11]] (by kernel_rfl)) (by kernel_rfl) (by kernel_rfl) (by kernel_rfl) (Or.inl ⟨by rfl, ?_⟩) hS ?_
          · intro w' hS'
            obtain ⟨s0, s1⟩ := hS'
            go_simp
          change wpAnyU _ _ _ _ _ _ _ _ (Act.put _ (some 71) _) _
          simp only [Act.put, List.setIfInBounds_toArray, List.set_cons_succ, List.set_cons_zero]
          refine wpAnyU_all (rs := [11]) (by kernel_rfl) (by simp) ?_
          intro j hj
          obtain rfl := List.mem_singleton.1 hj
          clear hj
          refine wpOp_shut rfl (fun K' HK => ?_)
          go_simp
          refine HK.out _ _ ⟨.inl (by decide), ?_⟩
          clear HK K'
          refine wpAnyU_done (by kernel_rfl) ?_ _
          have hfx := (HS19.out.below (Below.refl W19.heap.size W19).drew).ok.row m _ c19 (List.getElem?_set_self (by have := HT.out.1; omega)) HC19.out
          have hA := (HS19.out.below (Below.refl W19.heap.size W19).drew).frSet HFS19.out HC19.out (k := 1) (u := .int .i64 t.pc) (by decide) (hfx.pcSet t.pc) (fun b hb => by rw [valsOf_set (by decide)] at hb; exact hb)
          rw [List.set_set] at hA
          have hlr : m < G19.rows.length := (List.getElem?_eq_some_iff.1 HC19.out).1
          have hfx2 := hA.1.ok.row m _ (c19.set 1 (.int .i64 t.pc)) (List.getElem?_set_self (by have := HT.out.1; omega)) (List.getElem?_set_self hlr)
          have hB := hA.1.frSet HFS19.out (List.getElem?_set_self hlr) (k := 2) (u := .int .i64 t.scope) (by decide) (hfx2.scSet t.scope) (fun b hb => by rw [valsOf_set (by decide)] at hb; exact hb)
          simp only [List.set_set] at hB
          have HS21 := hid hB.1
          have HM21 := hid (((HM19.out.trans (SMv.below D1 G19 (Below.refl W19.heap.size W19).drew)).trans hA.2).trans hB.2)
          have HNF21 := hid (fun hf => (hB.2.sfoot (w.heap.size + 1) hf).elim (fun hf => (hA.2.sfoot _ hf).elim HNF19.out (by have := (Array.getElem?_eq_some_iff.1 HR4.out).1; show ¬ (W19.heap.size ≤ w.heap.size + 1); omega)) (by have := (Array.getElem?_eq_some_iff.1 HR4.out).1; rw [show ((W19.drew.setCell ⟨g, m * 9 + 1, none⟩ (.int .i64 t.pc)).heap.size) = W19.heap.size by simp]; omega))
          have r4 : ((W19.drew.setCell ⟨g, m * 9 + 1, none⟩ (.int .i64 t.pc)).setCell ⟨g, m * 9 + 2, none⟩ (.int .i64 t.scope)).heap[w.heap.size + 1]? = some (.cells #[.int .i64 0, .int .i64 0, .string ⟨#[]⟩] 33) := (set_ne _ hMg.symm).trans ((set_ne _ hMg.symm).trans HR4.out)
          clear hA hB hfx hfx2 k1 k2 f1 f2 u0 u2 hS HS19 HM19 HC19
          rw [show ((W19.setCell ⟨g, m * 9 + 1, none⟩ (.int .i64 t.pc)).setCell ⟨g, m * 9 + 2, none⟩ (.int .i64 t.scope)).drew = (W19.drew.setCell ⟨g, m * 9 + 1, none⟩ (.int .i64 t.pc)).setCell ⟨g, m * 9 + 2, none⟩ (.int .i64 t.scope) from rfl]
          generalize ((W19.drew.setCell ⟨g, m * 9 + 1, none⟩ (.int .i64 t.pc)).setCell ⟨g, m * 9 + 2, none⟩ (.int .i64 t.scope)) = W21 at HS21 HM21 r4 ⊢
          have x0 := (cell_of_row _ _ 0 _ _ _ r4).trans (b := some (Value.int .i64 0)) rfl
          have x1 := (cell_of_row _ _ 1 _ _ _ r4).trans (b := some (Value.int .i64 0)) rfl
          have x2 := (cell_of_row _ _ 2 _ _ _ r4).trans (b := some (Value.string ⟨#[]⟩)) rfl
          have f0 : W21.frozen? ⟨w.heap.size + 1, 0, none⟩ = false := by simp [World.frozen?, r4]
          have f1 : W21.frozen? ⟨w.heap.size + 1, 1, none⟩ = false := by simp [World.frozen?, r4]
          have f2 : W21.frozen? ⟨w.heap.size + 1, 2, none⟩ = false := by simp [World.frozen?, r4]
          have hrow : (((W21.setCell ⟨w.heap.size + 1, 0, none⟩ (.int .i64 0)).setCell ⟨w.heap.size + 1, 1, none⟩ (.int .i64 0)).setCell ⟨w.heap.size + 1, 2, none⟩ (.string ⟨#[]⟩)).heap[w.heap.size + 1]? = some (.cells #[.int .i64 0, .int .i64 0, .string ⟨#[]⟩] 33) := (set_at (set_at (set_at r4 _) _) _).trans rfl
          have HFin := hid (HS21.out.free3 (b := w.heap.size + 1) (.int .i64 0) (.int .i64 0) (.string ⟨#[]⟩) (.inl (.inr rfl)) (Typ.of r4) HNF.out.1 HNF21.out (Nat.le_succ_of_le HF3.out.2.2.2.2))
          have HMin := hid (((HM21.out.freeSet (b := w.heap.size + 1) (o := 0) (u := .int .i64 0) (Nat.le_succ _)).freeSet (b := w.heap.size + 1) (o := 1) (u := .int .i64 0) (Nat.le_succ _)).freeSet (b := w.heap.size + 1) (o := 2) (u := .string ⟨#[]⟩) (Nat.le_succ _))
          have HRow := hid hrow
          clear hrow r4 HS21 HM21
          go_wp2_with fail
          have z0 := (cell_of_row _ _ 0 _ _ _ HRow.out).trans (b := some (Value.int .i64 0)) rfl
          have z1 := (cell_of_row _ _ 1 _ _ _ HRow.out).trans (b := some (Value.int .i64 0)) rfl
          have z2 := (cell_of_row _ _ 2 _ _ _ HRow.out).trans (b := some (Value.string ByteArray.empty)) rfl
          rw [HPure.out]
          unfold tryTo
          rw [HXT.out]
          refine bodyPost_ret (v := .tuple #[undefV.agg, .bool false]) (by simp [results, Try.results21, go_sem, z0, z1, z2, VD.agg, undefV]) rfl ⟨rfl, _, _, _, HFin.out, HMin.out⟩
end
end Go.Proofs.Ytdgpblhmfkpblaa.Pg
