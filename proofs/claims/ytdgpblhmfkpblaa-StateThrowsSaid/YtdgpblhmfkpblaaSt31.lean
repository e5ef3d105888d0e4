/- Enter: what stops it; a generator. -/
import Derived.Test.YtdgpblhmfkpblaaSt30
import Derived.Test.YtdgpblhmfkpblaaSt21
namespace Go.Proofs.Ytdgpblhmfkpblaa.Pg
open Go.RowKit

set_option maxHeartbeats 800000 in
set_option maxRecDepth 100000 in
theorem snum_c (w : World) (n : Int) : Calls Try.prog 49 #[.int .i64 n] w fun e w' => e = .returned (numV n).agg ∧ Below w.heap.size w w' := by
  go_enter Try.func49, Try.ntmps49
  go_wp2
  obtain ⟨y0, y1, y2⟩ := val_cells w (.int .i64 3) (.int .i64 n) (.string ⟨#[]⟩)
  refine bodyPost_ret (v := (numV n).agg) (by simp [results, Try.results49, go_sem, y0, y1, y2, VD.agg, numV] <;> rfl) rfl ?_
  exact ⟨rfl, (Below.refl _ _).alloc (Nat.le_refl _) _⟩
set_option maxHeartbeats 800000 in
set_option maxRecDepth 100000 in
theorem sref_c (w : World) (n : Int) : Calls Try.prog 50 #[.int .i64 n] w fun e w' => e = .returned (refV n).agg ∧ Below w.heap.size w w' := by
  go_enter Try.func50, Try.ntmps50
  go_wp2
  obtain ⟨y0, y1, y2⟩ := val_cells w (.int .i64 5) (.int .i64 n) (.string ⟨#[]⟩)
  refine bodyPost_ret (v := (refV n).agg) (by simp [results, Try.results50, go_sem, y0, y1, y2, VD.agg, refV] <;> rfl) rfl ?_
  exact ⟨rfl, (Below.refl _ _).alloc (Nat.le_refl _) _⟩

section
variable {B B' : Bd} {w w' : World} {G G' : SG} {P P' : PS} {D D' : FD} {hs : List Nat} {L : List (Option (List CD))} {i : Nat}
theorem StOk.rowsOf (h : StOk B w G P) {m : Nat} (hm : P.frames.length = m + 1) : ∃ g cap, G.fsl = .slice (some ⟨g, 0, none⟩) (m + 1) cap ∧ B.X g ∧ m + 1 ≤ cap ∧ cap ≤ maxLen := by
  obtain ⟨g, cap, e, h1, h2, h3⟩ := h.fr.some (by rw [h.len]; omega)
  rw [h.len, hm] at e h2
  exact ⟨g, cap, e, h1, h2, h3⟩
theorem StOk.rowOf (h : StOk B w G P) {j : Nat} {F : FrD} (hF : P.frames[j]? = some F) : ∃ c, G.rows[j]? = some c ∧ FrX B w F c := by
  have hj : j < G.rows.length := by rw [h.len]; exact (List.getElem?_eq_some_iff.1 hF).1
  exact ⟨_, List.getElem?_eq_getElem hj, h.row j F _ hF (List.getElem?_eq_getElem hj)⟩
/-- The last frame's values, where they lie. -/
theorem StOk.valsAt (h : StOk B w G P) {j g n cap : Nat} {F : FrD} (hg : G.fsl = .slice (some ⟨g, 0, none⟩) n cap) (hF : P.frames[j]? = some F) : ∃ c A p, G.rows[j]? = some c ∧ valsOf c = .slice A F.vals.length p ∧ w.cell? ⟨g, j * 9 + 6, none⟩ = some (.slice A F.vals.length p) := by
  obtain ⟨c, hc, hx⟩ := h.rowOf hF
  obtain ⟨A, p, e⟩ := hx.vals.slice
  rw [List.length_map] at e
  have hr := h.fr
  rw [hg] at hr
  obtain ⟨v, t, e', _⟩ := hx
  refine ⟨c, A, p, hc, e, xr_cell hr hc (k := 6) ?_⟩
  rw [← e, e']; rfl

set_option maxHeartbeats 800000 in
set_option maxRecDepth 100000 in
theorem enter_stack (h : Sta B w D hs L i G P) {fs : List FunD} {Af : Option Addr} {nf pf : Nat} (hfu : G.funs = .slice Af nf pf) (hF : RowR B w 5 (.slice Af nf pf) (fs.map FunD.row)) {k : Nat} {f : FunD} (hk : fs[k]? = some f) (hcode : ∃ A n c, f.code = .slice A n c)
    (around : Int) (this : VD) {args : List VD} {A : Option Addr} {n cap : Nat} (ha : RowR B w 3 (.slice A n cap) (args.map VD.row)) (hfr : 64 ≤ P.frames.length) :
    Calls Try.prog 16 #[ptr G.at_, .int .i64 (k : Nat), .int .i64 around, this.agg, .slice A n cap] w fun e w' => e = .returned (.int .i64 7) ∧ Below w.heap.size w w' := by
  have hxr : (fs.map FunD.row)[k]? = some f.row := by rw [List.getElem?_map, hk]; rfl
  obtain ⟨name, params, slots, gen, code⟩ := f
  obtain ⟨Ac, nc, pc, rfl⟩ := hcode
  obtain ⟨hn1, hn2, hget⟩ := hF.get
  rw [List.length_map] at hn1
  have hkl := (List.getElem?_eq_some_iff.1 hk).1
  obtain ⟨bf, of, rfl, -, hcf⟩ := hget k _ hxr
  have bW : Below w.heap.size w (w.alloc (.cells #[.int .i64 this.kind, .int .i64 this.n, .string this.s] 33)) := (Below.refl _ _).alloc (Nat.le_refl _) _
  have r1 := heap_alloc_new w (.cells #[.int .i64 this.kind, .int .i64 this.n, .string this.s] 33)
  have l1 : (w.alloc (.cells #[.int .i64 this.kind, .int .i64 this.n, .string this.s] 33)).heap.size = w.heap.size + 1 := by simp
  have hF1 := hF.move (Fr.of_below bW)
  obtain ⟨_, _, hget1⟩ := hF1.get
  obtain ⟨bf', of', e', -, hcf1⟩ := hget1 k _ hxr
  injection e' with e'
  injection e' with e1 e2
  subst e1 e2
  have HA := hid (ha.move (Fr.of_below bW))
  have H := hid (h.below bW)
  have BW := hid bW
  clear hF hF1 hget hget1 hcf ha bW
  have hkn : (k : Int) < (nf : Int) := by omega
  unfold ptr VD.agg
  go_enter Try.func16, Try.ntmps16
  go_upto_region 3 with fail
  generalize (w.alloc (.cells #[.int .i64 this.kind, .int .i64 this.n, .string this.s] 33)) = W at BW r1 l1 H HA hcf1 ⊢
  have q0 := hcf1 0 _ rfl
  have q1 := hcf1 1 _ rfl
  have q2 := hcf1 2 _ rfl
  have q3 := hcf1 3 _ rfl
  have q4 := hcf1 4 _ rfl
  simp only [Nat.add_zero] at q0
  have c13 := H.out.ok.c (k := 13) (u := .slice (some ⟨bf, of, none⟩) nf pf) (by rw [← hfu]; rfl)
  clear hcf1
  have l2 : w.heap.size < W.heap.size := by omega
  go_upto_region 4 with fail
  have bW2 : Below W.heap.size W (W.alloc (.cells #[.string name, .int .i64 params, .int .i64 slots, .bool gen, .slice Ac nc pc] 28)) := (Below.refl _ _).alloc (Nat.le_refl _) _
  have r2 := heap_alloc_new W (.cells #[.string name, .int .i64 params, .int .i64 slots, .bool gen, .slice Ac nc pc] 28)
  rw [l1] at r2
  have r1' := (bW2.block w.heap.size l2).trans r1
  have l3 : (W.alloc (.cells #[.string name, .int .i64 params, .int .i64 slots, .bool gen, .slice Ac nc pc] 28)).heap.size = w.heap.size + 2 := by simp [l1]
  have HA2 := hid (HA.out.move (Fr.of_below bW2))
  have H2 := hid (H.out.below bW2)
  have BW2 := hid (BW.out.trans (bW2.mono (Nat.le_of_lt l2)))
  clear q0 q1 q2 q3 q4 c13 HA H BW r1 bW2
  generalize (W.alloc (.cells #[.string name, .int .i64 params, .int .i64 slots, .bool gen, .slice Ac nc pc] 28)) = W2 at HA2 H2 BW2 r1' r2 l3 ⊢
  clear l2 l1 W
  obtain ⟨Afr, pfr, efr⟩ := H2.out.ok.fr.slice
  have efr' : G.fsl = .slice Afr P.frames.length pfr := by rw [efr, H2.out.ok.len]
  have c5 := H2.out.ok.c (k := 5) (u := .slice Afr P.frames.length pfr) (by rw [← efr']; rfl)
  have q3 := (cell_of_row _ _ 3 _ _ _ r2).trans (b := some (Value.bool gen)) rfl
  have t0 : decide ((64 : Int) ≤ (P.frames.length : Nat)) = true := by simp; omega
  clear H2 HA2
  cases gen
  · go_wp2_with fail
    go_ret
    exact ⟨rfl, BW2.out⟩
  · go_wp2_with fail
    go_ret
    exact ⟨rfl, BW2.out⟩
set_option maxHeartbeats 800000 in
set_option maxRecDepth 100000 in
theorem enter_noroom (h : Sta B w D hs L i G P) {fs : List FunD} {Af : Option Addr} {nf pf : Nat} (hfu : G.funs = .slice Af nf pf) (hF : RowR B w 5 (.slice Af nf pf) (fs.map FunD.row)) {k : Nat} {f : FunD} (hk : fs[k]? = some f) (hcode : ∃ A n c, f.code = .slice A n c)
    (around : Int) (this : VD) {args : List VD} {A : Option Addr} {n cap : Nat} (ha : RowR B w 3 (.slice A n cap) (args.map VD.row)) (hfr : P.frames.length < 64) (hroom : 4096 < P.cells.length + (if f.gen then 2 else 1)) (hcl : P.cells.length ≤ 4096) :
    Calls Try.prog 16 #[ptr G.at_, .int .i64 (k : Nat), .int .i64 around, this.agg, .slice A n cap] w fun e w' => e = .returned (.int .i64 6) ∧ Below w.heap.size w w' := by
  have hxr : (fs.map FunD.row)[k]? = some f.row := by rw [List.getElem?_map, hk]; rfl
  obtain ⟨name, params, slots, gen, code⟩ := f
  obtain ⟨Ac, nc, pc, rfl⟩ := hcode
  obtain ⟨hn1, hn2, hget⟩ := hF.get
  rw [List.length_map] at hn1
  have hkl := (List.getElem?_eq_some_iff.1 hk).1
  obtain ⟨bf, of, rfl, -, hcf⟩ := hget k _ hxr
  have bW : Below w.heap.size w (w.alloc (.cells #[.int .i64 this.kind, .int .i64 this.n, .string this.s] 33)) := (Below.refl _ _).alloc (Nat.le_refl _) _
  have r1 := heap_alloc_new w (.cells #[.int .i64 this.kind, .int .i64 this.n, .string this.s] 33)
  have l1 : (w.alloc (.cells #[.int .i64 this.kind, .int .i64 this.n, .string this.s] 33)).heap.size = w.heap.size + 1 := by simp
  have hF1 := hF.move (Fr.of_below bW)
  obtain ⟨_, _, hget1⟩ := hF1.get
  obtain ⟨bf', of', e', -, hcf1⟩ := hget1 k _ hxr
  injection e' with e'
  injection e' with e1 e2
  subst e1 e2
  have HA := hid (ha.move (Fr.of_below bW))
  have H := hid (h.below bW)
  have BW := hid bW
  clear hF hF1 hget hget1 hcf ha bW
  have hkn : (k : Int) < (nf : Int) := by omega
  unfold ptr VD.agg
  go_enter Try.func16, Try.ntmps16
  go_upto_region 3 with fail
  generalize (w.alloc (.cells #[.int .i64 this.kind, .int .i64 this.n, .string this.s] 33)) = W at BW r1 l1 H HA hcf1 ⊢
  have q0 := hcf1 0 _ rfl
  have q1 := hcf1 1 _ rfl
  have q2 := hcf1 2 _ rfl
  have q3 := hcf1 3 _ rfl
  have q4 := hcf1 4 _ rfl
  simp only [Nat.add_zero] at q0
  have c13 := H.out.ok.c (k := 13) (u := .slice (some ⟨bf, of, none⟩) nf pf) (by rw [← hfu]; rfl)
  clear hcf1
  have l2 : w.heap.size < W.heap.size := by omega
  go_upto_region 4 with fail
  have bW2 : Below W.heap.size W (W.alloc (.cells #[.string name, .int .i64 params, .int .i64 slots, .bool gen, .slice Ac nc pc] 28)) := (Below.refl _ _).alloc (Nat.le_refl _) _
  have r2 := heap_alloc_new W (.cells #[.string name, .int .i64 params, .int .i64 slots, .bool gen, .slice Ac nc pc] 28)
  rw [l1] at r2
  have r1' := (bW2.block w.heap.size l2).trans r1
  have l3 : (W.alloc (.cells #[.string name, .int .i64 params, .int .i64 slots, .bool gen, .slice Ac nc pc] 28)).heap.size = w.heap.size + 2 := by simp [l1]
  have HA2 := hid (HA.out.move (Fr.of_below bW2))
  have H2 := hid (H.out.below bW2)
  have BW2 := hid (BW.out.trans (bW2.mono (Nat.le_of_lt l2)))
  clear q0 q1 q2 q3 q4 c13 HA H BW r1 bW2
  generalize (W.alloc (.cells #[.string name, .int .i64 params, .int .i64 slots, .bool gen, .slice Ac nc pc] 28)) = W2 at HA2 H2 BW2 r1' r2 l3 ⊢
  clear l2 l1 W
  obtain ⟨Afr, pfr, efr⟩ := H2.out.ok.fr.slice
  have efr' : G.fsl = .slice Afr P.frames.length pfr := by rw [efr, H2.out.ok.len]
  have c5 := H2.out.ok.c (k := 5) (u := .slice Afr P.frames.length pfr) (by rw [← efr']; rfl)
  have q3 := (cell_of_row _ _ 3 _ _ _ r2).trans (b := some (Value.bool gen)) rfl
  have t0 : decide ((64 : Int) ≤ (P.frames.length : Nat)) = false := by simp; omega
  clear HA2
  cases gen
  · have t1 : decide ((P.cells.length : Nat) + (1 : Int) ≤ 4096) = false := by simp at hroom ⊢; omega
    go_wp2_with fail
    refine (room_c H2.out (n := 1) (by omega) (by omega)).mono ?_
    rintro e w3 ⟨rfl, hw3⟩
    subst w3
    go_wp2_with fail
    go_ret
    exact ⟨rfl, BW2.out⟩
  · have t1 : decide ((P.cells.length : Nat) + (2 : Int) ≤ 4096) = false := by simp at hroom ⊢; omega
    go_wp2_with fail
    refine (room_c H2.out (n := 2) (by omega) (by omega)).mono ?_
    rintro e w3 ⟨rfl, hw3⟩
    subst w3
    go_wp2_with fail
    go_ret
    exact ⟨rfl, BW2.out⟩
set_option maxHeartbeats 800000 in
set_option maxRecDepth 100000 in
theorem enter_vals (h : Sta B w D hs L i G P) {fs : List FunD} {Af : Option Addr} {nf pf : Nat} (hfu : G.funs = .slice Af nf pf) (hF : RowR B w 5 (.slice Af nf pf) (fs.map FunD.row)) {k : Nat} {f : FunD} (hk : fs[k]? = some f) (hcode : ∃ A n c, f.code = .slice A n c)
    (around : Int) (this : VD) {args : List VD} {A : Option Addr} {n cap : Nat} (ha : RowR B w 3 (.slice A n cap) (args.map VD.row)) (hgen : f.gen = true) (hfr : P.frames.length < 64) (hroom : P.cells.length + 2 ≤ 4096) {m : Nat} (hm : P.frames.length = m + 1) {Fl : FrD} (hl : P.frames[m]? = some Fl) (hv : 256 ≤ Fl.vals.length) :
    Calls Try.prog 16 #[ptr G.at_, .int .i64 (k : Nat), .int .i64 around, this.agg, .slice A n cap] w fun e w' => e = .returned (.int .i64 7) ∧ Below w.heap.size w w' := by
  have hxr : (fs.map FunD.row)[k]? = some f.row := by rw [List.getElem?_map, hk]; rfl
  obtain ⟨name, params, slots, gen, code⟩ := f
  obtain ⟨Ac, nc, pc, rfl⟩ := hcode
  simp only at hgen
  subst hgen
  obtain ⟨hn1, hn2, hget⟩ := hF.get
  rw [List.length_map] at hn1
  have hkl := (List.getElem?_eq_some_iff.1 hk).1
  obtain ⟨bf, of, rfl, -, hcf⟩ := hget k _ hxr
  have bW : Below w.heap.size w (w.alloc (.cells #[.int .i64 this.kind, .int .i64 this.n, .string this.s] 33)) := (Below.refl _ _).alloc (Nat.le_refl _) _
  have r1 := heap_alloc_new w (.cells #[.int .i64 this.kind, .int .i64 this.n, .string this.s] 33)
  have l1 : (w.alloc (.cells #[.int .i64 this.kind, .int .i64 this.n, .string this.s] 33)).heap.size = w.heap.size + 1 := by simp
  have hF1 := hF.move (Fr.of_below bW)
  obtain ⟨_, _, hget1⟩ := hF1.get
  obtain ⟨bf', of', e', -, hcf1⟩ := hget1 k _ hxr
  injection e' with e'
  injection e' with e1 e2
  subst e1 e2
  have HA := hid (ha.move (Fr.of_below bW))
  have H := hid (h.below bW)
  have BW := hid bW
  clear hF hF1 hget hget1 hcf ha bW
  have hkn : (k : Int) < (nf : Int) := by omega
  unfold ptr VD.agg
  go_enter Try.func16, Try.ntmps16
  go_upto_region 3 with fail
  generalize (w.alloc (.cells #[.int .i64 this.kind, .int .i64 this.n, .string this.s] 33)) = W at BW r1 l1 H HA hcf1 ⊢
  have q0 := hcf1 0 _ rfl
  have q1 := hcf1 1 _ rfl
  have q2 := hcf1 2 _ rfl
  have q3 := hcf1 3 _ rfl
  have q4 := hcf1 4 _ rfl
  simp only [Nat.add_zero] at q0
  have c13 := H.out.ok.c (k := 13) (u := .slice (some ⟨bf, of, none⟩) nf pf) (by rw [← hfu]; rfl)
  clear hcf1
  have l2 : w.heap.size < W.heap.size := by omega
  go_upto_region 4 with fail
  have bW2 : Below W.heap.size W (W.alloc (.cells #[.string name, .int .i64 params, .int .i64 slots, .bool true, .slice Ac nc pc] 28)) := (Below.refl _ _).alloc (Nat.le_refl _) _
  have r2 := heap_alloc_new W (.cells #[.string name, .int .i64 params, .int .i64 slots, .bool true, .slice Ac nc pc] 28)
  rw [l1] at r2
  have r1' := (bW2.block w.heap.size l2).trans r1
  have l3 : (W.alloc (.cells #[.string name, .int .i64 params, .int .i64 slots, .bool true, .slice Ac nc pc] 28)).heap.size = w.heap.size + 2 := by simp [l1]
  have HA2 := hid (HA.out.move (Fr.of_below bW2))
  have H2 := hid (H.out.below bW2)
  have BW2 := hid (BW.out.trans (bW2.mono (Nat.le_of_lt l2)))
  clear q0 q1 q2 q3 q4 c13 HA H BW r1 bW2
  generalize (W.alloc (.cells #[.string name, .int .i64 params, .int .i64 slots, .bool true, .slice Ac nc pc] 28)) = W2 at HA2 H2 BW2 r1' r2 l3 ⊢
  clear l2 l1 W
  obtain ⟨Afr, pfr, efr⟩ := H2.out.ok.fr.slice
  have efr' : G.fsl = .slice Afr P.frames.length pfr := by rw [efr, H2.out.ok.len]
  have c5 := H2.out.ok.c (k := 5) (u := .slice Afr P.frames.length pfr) (by rw [← efr']; rfl)
  have q3 := (cell_of_row _ _ 3 _ _ _ r2).trans (b := some (Value.bool true)) rfl
  have t0 : decide ((64 : Int) ≤ (P.frames.length : Nat)) = false := by simp; omega
  have t1 : decide ((P.cells.length : Nat) + (2 : Int) ≤ 4096) = true := by simp; omega
  go_wp2_with fail
  refine (room_c H2.out (n := 2) (by omega) (by omega)).mono ?_
  rintro e w3 ⟨rfl, hw3⟩
  subst w3
  obtain ⟨g, fcap, efs, hgX, hc1, hc2⟩ := H2.out.ok.rowsOf hm
  go_wp2_with fail
  refine (last_c H2.out.ok hm efs hc1 hc2).mono ?_
  rintro e w4 ⟨rfl, hb4⟩
  go_wp2_with fail
  refine (last_c (H2.out.below hb4).ok hm efs hc1 hc2).mono ?_
  rintro e w5 ⟨rfl, hb5⟩
  have hb := hb4.trans (hb5.mono hb4.size)
  have H5 := hid (H2.out.below hb)
  have HA5 := hid (HA2.out.move (Fr.of_below hb))
  have BW5 := hid (BW2.out.trans (hb.mono BW2.out.size))
  have r15 := (hb.block _ (by omega)).trans r1'
  have r25 := (hb.block _ (by omega)).trans r2
  have l5 : w.heap.size + 2 ≤ w5.heap.size := by have := hb.size; omega
  clear hb4 hb5 hb H2 HA2 BW2 r1' r2 l3 c5 q3
  obtain ⟨cl, Av, pv, hcl, ecl, v6⟩ := H5.out.ok.valsAt efs hl
  have t2 : decide (256 ≤ (Fl.vals.length : Int)) = true := by simp; omega
  go_wp2_with fail
  refine (full_c (by simpa using v6)).mono ?_
  rintro e w6 ⟨rfl, hw6⟩
  subst w6
  go_wp2_with fail
  go_ret
  exact ⟨rfl, BW5.out⟩

def genC (this : VD) (k scope : Int) : CD := ⟨6, 0, 0, [], [this, numV k, refV scope, numV 0]⟩
set_option maxHeartbeats 3200000 in
set_option maxRecDepth 100000 in
theorem enter_gen (h : Sta B w D hs L i G P) {fs : List FunD} {Af : Option Addr} {nf pf : Nat} (hfu : G.funs = .slice Af nf pf) (hF : RowR B w 5 (.slice Af nf pf) (fs.map FunD.row)) {k : Nat} {f : FunD} (hk : fs[k]? = some f) (hcode : ∃ A n c, f.code = .slice A n c)
    (around : Int) (this : VD) {args : List VD} {A : Option Addr} {n cap : Nat} (ha : RowR B w 3 (.slice A n cap) (args.map VD.row)) (hL : L.length ≤ 1000) (hgen : f.gen = true) (hs0 : 0 ≤ f.slots) (hs1 : f.slots ≤ 1000) (hfr : P.frames.length < 64) (hroom : P.cells.length + 2 ≤ 4096) {m : Nat} (hm : P.frames.length = m + 1) {Fl : FrD} (hl : P.frames[m]? = some Fl) (hv : Fl.vals.length < 256) :
    Calls Try.prog 16 #[ptr G.at_, .int .i64 (k : Nat), .int .i64 around, this.agg, .slice A n cap] w fun e w' => e = .returned (.int .i64 0) ∧ ∃ B' D' G', Sta B' w' D' hs (L.set i (some (P.cells ++ [scopeC around (slotsD f.params f.slots.toNat args), genC this (k : Nat) ((P.cells.length : Nat) + 1)]))) i G'
      { P with cells := P.cells ++ [scopeC around (slotsD f.params f.slots.toNat args), genC this (k : Nat) ((P.cells.length : Nat) + 1)], frames := P.frames.set m { Fl with vals := Fl.vals ++ [refV ((P.cells.length : Nat) + 2)] } } ∧ SMv B w D G B' w' D' G' := by

  have hxr : (fs.map FunD.row)[k]? = some f.row := by rw [List.getElem?_map, hk]; rfl
  obtain ⟨name, params, slots, gen, code⟩ := f
  obtain ⟨Ac, nc, pc, rfl⟩ := hcode
  simp only at hgen hs0 hs1
  subst hgen
  obtain ⟨hn1, hn2, hget⟩ := hF.get
  rw [List.length_map] at hn1
  have hkl := (List.getElem?_eq_some_iff.1 hk).1
  obtain ⟨bf, of, rfl, -, hcf⟩ := hget k _ hxr
  have bW : Below w.heap.size w (w.alloc (.cells #[.int .i64 this.kind, .int .i64 this.n, .string this.s] 33)) := (Below.refl _ _).alloc (Nat.le_refl _) _
  have r1 := heap_alloc_new w (.cells #[.int .i64 this.kind, .int .i64 this.n, .string this.s] 33)
  have l1 : (w.alloc (.cells #[.int .i64 this.kind, .int .i64 this.n, .string this.s] 33)).heap.size = w.heap.size + 1 := by simp
  have hF1 := hF.move (Fr.of_below bW)
  obtain ⟨_, _, hget1⟩ := hF1.get
  obtain ⟨bf', of', e', -, hcf1⟩ := hget1 k _ hxr
  injection e' with e'
  injection e' with e1 e2
  subst e1 e2
  have HA := hid (ha.move (Fr.of_below bW))
  have H := hid (h.below bW)
  have BW := hid bW
  clear hF hF1 hget hget1 hcf ha bW
  have hkn : (k : Int) < (nf : Int) := by omega
  unfold ptr VD.agg
  go_enter Try.func16, Try.ntmps16
  go_upto_region 3 with fail
  generalize (w.alloc (.cells #[.int .i64 this.kind, .int .i64 this.n, .string this.s] 33)) = W at BW r1 l1 H HA hcf1 ⊢
  have q0 := hcf1 0 _ rfl
  have q1 := hcf1 1 _ rfl
  have q2 := hcf1 2 _ rfl
  have q3 := hcf1 3 _ rfl
  have q4 := hcf1 4 _ rfl
  simp only [Nat.add_zero] at q0
  have c13 := H.out.ok.c (k := 13) (u := .slice (some ⟨bf, of, none⟩) nf pf) (by rw [← hfu]; rfl)
  clear hcf1
  have l2 : w.heap.size < W.heap.size := by omega
  go_upto_region 4 with fail
  have bW2 : Below W.heap.size W (W.alloc (.cells #[.string name, .int .i64 params, .int .i64 slots, .bool true, .slice Ac nc pc] 28)) := (Below.refl _ _).alloc (Nat.le_refl _) _
  have r2 := heap_alloc_new W (.cells #[.string name, .int .i64 params, .int .i64 slots, .bool true, .slice Ac nc pc] 28)
  rw [l1] at r2
  have r1' := (bW2.block w.heap.size l2).trans r1
  have l3 : (W.alloc (.cells #[.string name, .int .i64 params, .int .i64 slots, .bool true, .slice Ac nc pc] 28)).heap.size = w.heap.size + 2 := by simp [l1]
  have HA2 := hid (HA.out.move (Fr.of_below bW2))
  have H2 := hid (H.out.below bW2)
  have BW2 := hid (BW.out.trans (bW2.mono (Nat.le_of_lt l2)))
  clear q0 q1 q2 q3 q4 c13 HA H BW r1 bW2
  generalize (W.alloc (.cells #[.string name, .int .i64 params, .int .i64 slots, .bool true, .slice Ac nc pc] 28)) = W2 at HA2 H2 BW2 r1' r2 l3 ⊢
  clear l2 l1 W
  obtain ⟨Afr, pfr, efr⟩ := H2.out.ok.fr.slice
  have efr' : G.fsl = .slice Afr P.frames.length pfr := by rw [efr, H2.out.ok.len]
  have c5 := H2.out.ok.c (k := 5) (u := .slice Afr P.frames.length pfr) (by rw [← efr']; rfl)
  have q3 := (cell_of_row _ _ 3 _ _ _ r2).trans (b := some (Value.bool true)) rfl
  have t0 : decide ((64 : Int) ≤ (P.frames.length : Nat)) = false := by simp; omega
  have t1 : decide ((P.cells.length : Nat) + (2 : Int) ≤ 4096) = true := by simp; omega
  go_wp2_with fail
  refine (room_c H2.out (n := 2) (by omega) (by omega)).mono ?_
  rintro e w3 ⟨rfl, hw3⟩
  subst w3
  obtain ⟨g, fcap, efs, hgX, hc1, hc2⟩ := H2.out.ok.rowsOf hm
  go_wp2_with fail
  refine (last_c H2.out.ok hm efs hc1 hc2).mono ?_
  rintro e w4 ⟨rfl, hb4⟩
  go_wp2_with fail
  refine (last_c (H2.out.below hb4).ok hm efs hc1 hc2).mono ?_
  rintro e w5 ⟨rfl, hb5⟩
  have hb := hb4.trans (hb5.mono hb4.size)
  have H5 := hid (H2.out.below hb)
  have HA5 := hid (HA2.out.move (Fr.of_below hb))
  have BW5 := hid (BW2.out.trans (hb.mono BW2.out.size))
  have r15 := (hb.block _ (by omega)).trans r1'
  have r25 := (hb.block _ (by omega)).trans r2
  have l5 : w.heap.size + 2 ≤ w5.heap.size := by have := hb.size; omega
  clear hb4 hb5 hb H2 HA2 BW2 r1' r2 l3 c5 q3
  obtain ⟨cl, Av, pv, hcl, ecl, v6⟩ := H5.out.ok.valsAt efs hl
  obtain ⟨i0, hi, hz0, hz1, hz2⟩ := info_parts infoVal
  have HI := hid hi
  clear hi
  have t2 : decide (256 ≤ (Fl.vals.length : Int)) = false := by simp; omega
  go_wp2_with fail
  refine (full_c (by simpa using v6)).mono ?_
  rintro e w3 ⟨rfl, hw6⟩
  subst w3
  have q0 := (cell_of_row _ _ 0 _ _ _ r25).trans (b := some (Value.string name)) rfl
  have q1 := (cell_of_row _ _ 1 _ _ _ r25).trans (b := some (Value.int .i64 params)) rfl
  have q2 := (cell_of_row _ _ 2 _ _ _ r25).trans (b := some (Value.int .i64 slots)) rfl
  have q4 := (cell_of_row _ _ 4 _ _ _ r25).trans (b := some (Value.slice Ac nc pc)) rfl
  have q3 := (cell_of_row _ _ 3 _ _ _ r25).trans (b := some (Value.bool true)) rfl
  go_upto_region 13 with fail
  have c0 := H5.out.ok.c (k := 0) (u := ptr G.hp) rfl
  unfold ptr at c0
  have hat := (H5.out.ok.foot_lt (.inl rfl)).1
  have hnf : ∀ x, w.heap.size ≤ x → ¬ Foot D x := fun x hx hf => by have := (h.h.fam.foot_lt hf).1; omega
  have HNF := hid hnf
  clear hnf v6
  refine wp_region_until [14] (S := (fun w' => w'.cell? ⟨G.at_, 0, none⟩ = some (.pointer (some ⟨G.hp, 0, none⟩)) ∧ w'.cell? ⟨w.heap.size + 1, 0, none⟩ = some (.string name) ∧ w'.cell? ⟨w.heap.size + 1, 1, none⟩ = some (.int .i64 params) ∧ w'.cell? ⟨w.heap.size + 1, 2, none⟩ = some (.int .i64 slots) ∧ w'.cell? ⟨w.heap.size + 1, 3, none⟩ = some (.bool true) ∧ w'.cell? ⟨w.heap.size + 1, 4, none⟩ = some (.slice Ac nc pc))) (by kernel_rfl) ?_ ?_
  · exact ⟨c0, q0, q1, q2, q3, q4⟩
  intro hS
  refine wpAnyU_take (i := 0) (v := (.pointer (some ⟨G.at_, 0, none⟩))) rfl (by kernel_rfl) (fun _ _ _ h => h) (leads_of [[14]] (by kernel_rfl)) (by kernel_rfl) (by kernel_rfl) (by kernel_rfl) (Or.inl ⟨by rfl, ?_⟩) hS ?_
  · intro w' hS'
    obtain ⟨s0, s1, s2, s3, s4, s5⟩ := hS'
    go_simp
  change wpAnyU _ _ _ _ _ _ _ _ (Act.put _ (some 56) _) _
  simp only [Act.put, List.setIfInBounds_toArray, List.set_cons_succ, List.set_cons_zero]
  refine wpAnyU_take (i := 1) (v := (.pointer (some ⟨G.at_, 0, none⟩))) rfl (by kernel_rfl) (fun _ _ _ h => h) (leads_of [[14]] (by kernel_rfl)) (by kernel_rfl) (by kernel_rfl) (by kernel_rfl) (Or.inl ⟨by rfl, ?_⟩) hS ?_
  · intro w' hS'
    obtain ⟨s0, s1, s2, s3, s4, s5⟩ := hS'
    go_simp
  change wpAnyU _ _ _ _ _ _ _ _ (Act.put _ (some 57) _) _
  simp only [Act.put, List.setIfInBounds_toArray, List.set_cons_succ, List.set_cons_zero]
  refine wpAnyU_take (i := 2) (v := (.pointer (some ⟨G.at_, 0, none⟩))) rfl (by kernel_rfl) (fun _ _ _ h => h) (leads_of [[14]] (by kernel_rfl)) (by kernel_rfl) (by kernel_rfl) (by kernel_rfl) (Or.inl ⟨by rfl, ?_⟩) hS ?_
  · intro w' hS'
    obtain ⟨s0, s1, s2, s3, s4, s5⟩ := hS'
    go_simp
  change wpAnyU _ _ _ _ _ _ _ _ (Act.put _ (some 58) _) _
  simp only [Act.put, List.setIfInBounds_toArray, List.set_cons_succ, List.set_cons_zero]
  refine wpAnyU_take (i := 3) (v := (.pointer (some ⟨G.hp, 0, none⟩))) rfl (by kernel_rfl) (fun _ _ _ h => h) (leads_of [[14]] (by kernel_rfl)) (by kernel_rfl) (by kernel_rfl) (by kernel_rfl) (Or.inl ⟨by rfl, ?_⟩) hS ?_
  · intro w' hS'
    obtain ⟨s0, s1, s2, s3, s4, s5⟩ := hS'
    go_simp
  change wpAnyU _ _ _ _ _ _ _ _ (Act.put _ (some 59) _) _
  simp only [Act.put, List.setIfInBounds_toArray, List.set_cons_succ, List.set_cons_zero]
  refine wpAnyU_take (i := 4) (v := (.int .i64 around)) rfl (by kernel_rfl) (fun _ _ _ h => h) (leads_of [[14]] (by kernel_rfl)) (by kernel_rfl) (by kernel_rfl) (by kernel_rfl) (Or.inl ⟨by rfl, ?_⟩) hS ?_
  · intro w' hS'
    obtain ⟨s0, s1, s2, s3, s4, s5⟩ := hS'
    go_simp
  change wpAnyU _ _ _ _ _ _ _ _ (Act.put _ (some 60) _) _
  simp only [Act.put, List.setIfInBounds_toArray, List.set_cons_succ, List.set_cons_zero]
  refine wpAnyU_take (i := 5) (v := (.agg #[.string name, .int .i64 params, .int .i64 slots, .bool true, .slice Ac nc pc])) rfl (by kernel_rfl) (fun _ _ _ h => h) (leads_of [[14]] (by kernel_rfl)) (by kernel_rfl) (by kernel_rfl) (by kernel_rfl) (Or.inl ⟨by rfl, ?_⟩) hS ?_
  · intro w' hS'
    obtain ⟨s0, s1, s2, s3, s4, s5⟩ := hS'
    go_simp
  change wpAnyU _ _ _ _ _ _ _ _ (Act.put _ (some 61) _) _
  simp only [Act.put, List.setIfInBounds_toArray, List.set_cons_succ, List.set_cons_zero]
  refine wpAnyU_take (i := 6) (v := (.slice A n cap)) rfl (by kernel_rfl) (fun _ _ _ h => h) (leads_of [[14]] (by kernel_rfl)) (by kernel_rfl) (by kernel_rfl) (by kernel_rfl) (Or.inl ⟨by rfl, ?_⟩) hS ?_
  · intro w' hS'
    obtain ⟨s0, s1, s2, s3, s4, s5⟩ := hS'
    go_simp
  change wpAnyU _ _ _ _ _ _ _ _ (Act.put _ (some 62) _) _
  simp only [Act.put, List.setIfInBounds_toArray, List.set_cons_succ, List.set_cons_zero]
  refine wpAnyU_all (rs := [7]) (by kernel_rfl) (by simp) ?_
  intro j hj
  obtain rfl := List.mem_singleton.1 hj
  clear hj
  refine wpOp_shut rfl (fun K' HK => ?_)
  refine step_call rfl (f := 48) rfl Try.func48 (by kernel_rfl) rfl #[.agg #[.string name, .int .i64 params, .int .i64 slots, .bool true, .slice Ac nc pc], .slice A n cap] (by simp only [List.map_toArray, List.map_cons, List.map_nil]; rfl) ?_
  refine (slots_c (f := ⟨name, params, slots, true, .slice Ac nc pc⟩) (args := args) (B := B) (HA5.out.move Fr.drew) hs0 (by simp only; omega)).mono ?_
  rintro e w4 ⟨v', rfl, hb', hv'⟩
  refine ⟨_, rfl, ?_⟩
  obtain ⟨A1, p1, e1⟩ := hv'.slice
  subst e1
  have HB := hid (below_drew hb')
  have HV := hid hv'
  clear hb' hv'
  refine HK.out _ _ ⟨.inr ?_, ?_⟩
  · exact ⟨keepc HB.out c0, keepc HB.out q0, keepc HB.out q1, keepc HB.out q2, keepc HB.out q3, keepc HB.out q4⟩
  clear HK K'
  have hS := And.intro (keepc HB.out c0) (And.intro (keepc HB.out q0) (And.intro (keepc HB.out q1) (And.intro (keepc HB.out q2) (And.intro (keepc HB.out q3) (keepc HB.out q4)))))
  change wpAnyU _ _ _ _ _ _ _ _ (Act.put _ (some 63) _) _
  simp only [Act.put, List.setIfInBounds_toArray, List.set_cons_succ, List.set_cons_zero]
  refine wpAnyU_take (i := 8) (v := (.agg #[.int .i64 4, .int .i64 around, .int .i64 0, .slice none 0 0, .slice A1 (slotsD params slots.toNat args).length p1])) rfl (by kernel_rfl) (fun _ _ _ h => h) (leads_of [[14]] (by kernel_rfl)) (by kernel_rfl) (by kernel_rfl) (by kernel_rfl) (Or.inl ⟨by rfl, ?_⟩) hS ?_
  · intro w' hS'
    obtain ⟨s0, s1, s2, s3, s4, s5⟩ := hS'
    go_simp
  change wpAnyU _ _ _ _ _ _ _ _ (Act.put _ (some 64) _) _
  simp only [Act.put, List.setIfInBounds_toArray, List.set_cons_succ, List.set_cons_zero]
  refine wpAnyU_all (rs := [9]) (by kernel_rfl) (by simp) ?_
  intro j hj
  obtain rfl := List.mem_singleton.1 hj
  clear hj
  refine wpOp_shut rfl (fun K' HK => ?_)
  refine step_call rfl (f := 47) rfl Try.func47 (by kernel_rfl) rfl #[.pointer (some ⟨G.hp, 0, none⟩), .agg #[.int .i64 4, .int .i64 around, .int .i64 0, .slice none 0 0, .slice A1 (slotsD params slots.toNat args).length p1]] (by simp only [List.map_toArray, List.map_cons, List.map_nil]; rfl) ?_
  refine ((H5.out.below HB.out).h.alloc (c := scopeC around (slotsD params slots.toNat args)) (Nat.le_trans h.ok.base (by have := HB.out.size; omega)) hL h.hp h.cells (by omega) ⟨RowR.nil _ _ _, HV.out.rowR (fun k hk => H5.out.h.fam.fresh k hk)⟩ ⟨by simp [scopeC], by simp [scopeC, slotsD_length]; omega⟩).mono ?_
  rintro e w6 ⟨rfl, D6, hH6, hG6⟩
  refine ⟨_, rfl, ?_⟩
  have HH6 := hid hH6
  have HG6 := hid hG6
  clear hH6 hG6
  refine HK.out _ _ ⟨.inr ?_, ?_⟩
  · exact ⟨(World.cell?_of_block (HG6.out.keep _ (Nat.lt_of_lt_of_le (block_lt_of_cell c0) HB.out.size) (H5.out.ok.no_foot H5.out.h.fam (.inl rfl)))).trans (keepc HB.out c0), (World.cell?_of_block (HG6.out.keep (w.heap.size + 1) (Nat.lt_of_lt_of_le (block_lt_of_cell q0) HB.out.size) (HNF.out _ (Nat.le_succ _)))).trans (keepc HB.out q0), (World.cell?_of_block (HG6.out.keep (w.heap.size + 1) (Nat.lt_of_lt_of_le (block_lt_of_cell q1) HB.out.size) (HNF.out _ (Nat.le_succ _)))).trans (keepc HB.out q1), (World.cell?_of_block (HG6.out.keep (w.heap.size + 1) (Nat.lt_of_lt_of_le (block_lt_of_cell q2) HB.out.size) (HNF.out _ (Nat.le_succ _)))).trans (keepc HB.out q2), (World.cell?_of_block (HG6.out.keep (w.heap.size + 1) (Nat.lt_of_lt_of_le (block_lt_of_cell q3) HB.out.size) (HNF.out _ (Nat.le_succ _)))).trans (keepc HB.out q3), (World.cell?_of_block (HG6.out.keep (w.heap.size + 1) (Nat.lt_of_lt_of_le (block_lt_of_cell q4) HB.out.size) (HNF.out _ (Nat.le_succ _)))).trans (keepc HB.out q4)⟩
  clear HK K'
  have hS := And.intro ((World.cell?_of_block (HG6.out.keep _ (Nat.lt_of_lt_of_le (block_lt_of_cell c0) HB.out.size) (H5.out.ok.no_foot H5.out.h.fam (.inl rfl)))).trans (keepc HB.out c0)) (And.intro ((World.cell?_of_block (HG6.out.keep (w.heap.size + 1) (Nat.lt_of_lt_of_le (block_lt_of_cell q0) HB.out.size) (HNF.out _ (Nat.le_succ _)))).trans (keepc HB.out q0)) (And.intro ((World.cell?_of_block (HG6.out.keep (w.heap.size + 1) (Nat.lt_of_lt_of_le (block_lt_of_cell q1) HB.out.size) (HNF.out _ (Nat.le_succ _)))).trans (keepc HB.out q1)) (And.intro ((World.cell?_of_block (HG6.out.keep (w.heap.size + 1) (Nat.lt_of_lt_of_le (block_lt_of_cell q2) HB.out.size) (HNF.out _ (Nat.le_succ _)))).trans (keepc HB.out q2)) (And.intro ((World.cell?_of_block (HG6.out.keep (w.heap.size + 1) (Nat.lt_of_lt_of_le (block_lt_of_cell q3) HB.out.size) (HNF.out _ (Nat.le_succ _)))).trans (keepc HB.out q3)) ((World.cell?_of_block (HG6.out.keep (w.heap.size + 1) (Nat.lt_of_lt_of_le (block_lt_of_cell q4) HB.out.size) (HNF.out _ (Nat.le_succ _)))).trans (keepc HB.out q4))))))
  change wpAnyU _ _ _ _ _ _ _ _ (Act.put _ (some 65) _) _
  simp only [Act.put, List.setIfInBounds_toArray, List.set_cons_succ, List.set_cons_zero]
  refine wpAnyU_take (i := 10) (v := (.tuple #[.int .i64 ((P.cells.length : Nat) + 1), .int .i64 0])) rfl (by kernel_rfl) (fun _ _ _ h => h) (leads_of [[14]] (by kernel_rfl)) (by kernel_rfl) (by kernel_rfl) (by kernel_rfl) (Or.inl ⟨by rfl, ?_⟩) hS ?_
  · intro w' hS'
    obtain ⟨s0, s1, s2, s3, s4, s5⟩ := hS'
    go_simp
  change wpAnyU _ _ _ _ _ _ _ _ (Act.put _ (some 55) _) _
  simp only [Act.put, List.setIfInBounds_toArray, List.set_cons_succ, List.set_cons_zero]
  refine wpAnyU_take (i := 11) (v := (.int .i64 ((P.cells.length : Nat) + 1))) rfl (by kernel_rfl) (fun _ _ _ h => h) (leads_of [[14]] (by kernel_rfl)) (by kernel_rfl) (by kernel_rfl) (by kernel_rfl) (Or.inl ⟨by rfl, ?_⟩) hS ?_
  · intro w' hS'
    obtain ⟨s0, s1, s2, s3, s4, s5⟩ := hS'
    go_simp
  change wpAnyU _ _ _ _ _ _ _ _ (Act.put _ (some 66) _) _
  simp only [Act.put, List.setIfInBounds_toArray, List.set_cons_succ, List.set_cons_zero]
  refine wpAnyU_take (i := 12) (v := (.int .i64 0)) rfl (by kernel_rfl) (fun _ _ _ h => h) (leads_of [[14]] (by kernel_rfl)) (by kernel_rfl) (by kernel_rfl) (by kernel_rfl) (Or.inl ⟨by rfl, ?_⟩) hS ?_
  · intro w' hS'
    obtain ⟨s0, s1, s2, s3, s4, s5⟩ := hS'
    go_simp
  change wpAnyU _ _ _ _ _ _ _ _ (Act.put _ (some 67) _) _
  simp only [Act.put, List.setIfInBounds_toArray, List.set_cons_succ, List.set_cons_zero]
  refine wpAnyU_take (i := 13) (v := (.int .i64 ((P.cells.length : Nat) + 1))) rfl (by kernel_rfl) (fun _ _ _ h => h) (leads_of [[14]] (by kernel_rfl)) (by kernel_rfl) (by kernel_rfl) (by kernel_rfl) (Or.inl ⟨by rfl, ?_⟩) hS ?_
  · intro w' hS'
    obtain ⟨s0, s1, s2, s3, s4, s5⟩ := hS'
    go_simp
  change wpAnyU _ _ _ _ _ _ _ _ (Act.put _ (some 13) _) _
  simp only [Act.put, List.setIfInBounds_toArray, List.set_cons_succ, List.set_cons_zero]
  refine wpAnyU_all (rs := [14]) (by kernel_rfl) (by simp) ?_
  intro j hj
  obtain rfl := List.mem_singleton.1 hj
  clear hj
  refine wpOp_shut rfl (fun K' HK => ?_)
  go_simp
  refine HK.out _ _ ⟨.inl (by decide), ?_⟩
  clear HK K'
  try simp only [Act.put, List.setIfInBounds_toArray, List.set_cons_succ, List.set_cons_zero]
  refine wpAnyU_done (by kernel_rfl) ?_ _
  have hS := (H5.out.below HB.out).goes HH6.out HG6.out
  have hM := ((SMv.below D G BW5.out).trans (SMv.below D G HB.out)).trans (SMv.goes (B := B) G HG6.out)
  have s4 := HB.out.size
  have e1 : w6.heap[w.heap.size]? = w5.heap[w.heap.size]? := (HG6.out.keep _ (by omega) (HNF.out _ (Nat.le_refl _))).trans (HB.out.block _ (by omega))
  have e2 : w6.heap[w.heap.size + 1]? = w5.heap[w.heap.size + 1]? := (HG6.out.keep _ (by omega) (HNF.out _ (by omega))).trans (HB.out.block _ (by omega))
  have p1 := e1.trans r15
  have p2 := e2.trans r25
  have z0 := (cell_of_row _ _ 0 _ _ _ p1).trans (b := some (Value.int .i64 this.kind)) rfl
  have z1 := (cell_of_row _ _ 1 _ _ _ p1).trans (b := some (Value.int .i64 this.n)) rfl
  have z2 := (cell_of_row _ _ 2 _ _ _ p1).trans (b := some (Value.string this.s)) rfl
  have q3' := (cell_of_row _ _ 3 _ _ _ p2).trans (b := some (Value.bool true)) rfl
  have HS := hid hS
  have HM := hid hM
  clear q0 q1 q2 q3 q4 c0 e1 e2 p1 p2 r15 r25 hS hM
  have y0 := HS.out.ok.c (k := 0) (u := ptr G.hp) rfl
  unfold ptr at y0
  go_upto_region 17 with fail
  have hBw : B ≤ w.heap.size := Nat.le_trans h.ok.base (Nat.le_of_lt (h.ok.foot_lt (.inl rfl)).1)
  refine wp_region_until [17] (S := (fun w' => w'.cell? ⟨G.at_, 0, none⟩ = some (.pointer (some ⟨G.hp, 0, none⟩)) ∧ w'.cell? ⟨w.heap.size, 0, none⟩ = some (.int .i64 this.kind) ∧ w'.cell? ⟨w.heap.size, 1, none⟩ = some (.int .i64 this.n) ∧ w'.cell? ⟨w.heap.size, 2, none⟩ = some (.string this.s))) (by kernel_rfl) ?_ ?_
  · exact ⟨y0, z0, z1, z2⟩
  intro hS
  refine wpAnyU_take (i := 0) (v := (.pointer (some ⟨G.at_, 0, none⟩))) rfl (by kernel_rfl) (fun _ _ _ h => h) (leads_of [[17]] (by kernel_rfl)) (by kernel_rfl) (by kernel_rfl) (by kernel_rfl) (Or.inl ⟨by rfl, ?_⟩) hS ?_
  · intro w' hS'
    obtain ⟨s0, s1, s2, s3⟩ := hS'
    go_simp
  change wpAnyU _ _ _ _ _ _ _ _ (Act.put _ (some 87) _) _
  simp only [Act.put, List.setIfInBounds_toArray, List.set_cons_succ, List.set_cons_zero]
  refine wpAnyU_take (i := 1) (v := (.pointer (some ⟨G.at_, 0, none⟩))) rfl (by kernel_rfl) (fun _ _ _ h => h) (leads_of [[17]] (by kernel_rfl)) (by kernel_rfl) (by kernel_rfl) (by kernel_rfl) (Or.inl ⟨by rfl, ?_⟩) hS ?_
  · intro w' hS'
    obtain ⟨s0, s1, s2, s3⟩ := hS'
    go_simp
  change wpAnyU _ _ _ _ _ _ _ _ (Act.put _ (some 88) _) _
  simp only [Act.put, List.setIfInBounds_toArray, List.set_cons_succ, List.set_cons_zero]
  refine wpAnyU_take (i := 2) (v := (.pointer (some ⟨G.at_, 0, none⟩))) rfl (by kernel_rfl) (fun _ _ _ h => h) (leads_of [[17]] (by kernel_rfl)) (by kernel_rfl) (by kernel_rfl) (by kernel_rfl) (Or.inl ⟨by rfl, ?_⟩) hS ?_
  · intro w' hS'
    obtain ⟨s0, s1, s2, s3⟩ := hS'
    go_simp
  change wpAnyU _ _ _ _ _ _ _ _ (Act.put _ (some 89) _) _
  simp only [Act.put, List.setIfInBounds_toArray, List.set_cons_succ, List.set_cons_zero]
  refine wpAnyU_take (i := 3) (v := (.pointer (some ⟨G.hp, 0, none⟩))) rfl (by kernel_rfl) (fun _ _ _ h => h) (leads_of [[17]] (by kernel_rfl)) (by kernel_rfl) (by kernel_rfl) (by kernel_rfl) (Or.inl ⟨by rfl, ?_⟩) hS ?_
  · intro w' hS'
    obtain ⟨s0, s1, s2, s3⟩ := hS'
    go_simp
  change wpAnyU _ _ _ _ _ _ _ _ (Act.put _ (some 90) _) _
  simp only [Act.put, List.setIfInBounds_toArray, List.set_cons_succ, List.set_cons_zero]
  refine wpAnyU_take (i := 4) (v := (.agg #[.int .i64 this.kind, .int .i64 this.n, .string this.s])) rfl (by kernel_rfl) (fun _ _ _ h => h) (leads_of [[17]] (by kernel_rfl)) (by kernel_rfl) (by kernel_rfl) (by kernel_rfl) (Or.inl ⟨by rfl, ?_⟩) hS ?_
  · intro w' hS'
    obtain ⟨s0, s1, s2, s3⟩ := hS'
    go_simp
  change wpAnyU _ _ _ _ _ _ _ _ (Act.put _ (some 91) _) _
  simp only [Act.put, List.setIfInBounds_toArray, List.set_cons_succ, List.set_cons_zero]
  refine wpAnyU_take (i := 5) (v := (.int .i64 (k : Nat))) rfl (by kernel_rfl) (fun _ _ _ h => h) (leads_of [[17]] (by kernel_rfl)) (by kernel_rfl) (by kernel_rfl) (by kernel_rfl) (Or.inl ⟨by rfl, ?_⟩) hS ?_
  · intro w' hS'
    obtain ⟨s0, s1, s2, s3⟩ := hS'
    go_simp
  change wpAnyU _ _ _ _ _ _ _ _ (Act.put _ (some 92) _) _
  simp only [Act.put, List.setIfInBounds_toArray, List.set_cons_succ, List.set_cons_zero]
  refine wpAnyU_take (i := 7) (v := (.int .i64 ((P.cells.length : Nat) + 1))) rfl (by kernel_rfl) (fun _ _ _ h => h) (leads_of [[17]] (by kernel_rfl)) (by kernel_rfl) (by kernel_rfl) (by kernel_rfl) (Or.inl ⟨by rfl, ?_⟩) hS ?_
  · intro w' hS'
    obtain ⟨s0, s1, s2, s3⟩ := hS'
    go_simp
  change wpAnyU _ _ _ _ _ _ _ _ (Act.put _ (some 94) _) _
  simp only [Act.put, List.setIfInBounds_toArray, List.set_cons_succ, List.set_cons_zero]
  refine wpAnyU_all (rs := [6]) (by kernel_rfl) (by simp) ?_
  intro j hj
  obtain rfl := List.mem_singleton.1 hj
  clear hj
  refine wpOp_shut rfl (fun K' HK => ?_)
  refine step_call rfl (f := 49) rfl Try.func49 (by kernel_rfl) rfl #[.int .i64 (k : Nat)] (by simp only [List.map_toArray, List.map_cons, List.map_nil]; rfl) ?_
  refine (snum_c _ _).mono ?_
  rintro e w10 ⟨rfl, hb'⟩
  refine ⟨_, rfl, ?_⟩
  unfold VD.agg numV
  dsimp only
  have HBw10 := hid (below_drew hb')
  clear hb'
  refine HK.out _ _ ⟨.inr ?_, ?_⟩
  · exact ⟨keepc HBw10.out y0, keepc HBw10.out z0, keepc HBw10.out z1, keepc HBw10.out z2⟩
  clear HK K'
  have hS := And.intro (keepc HBw10.out y0) (And.intro (keepc HBw10.out z0) (And.intro (keepc HBw10.out z1) (keepc HBw10.out z2)))
  change wpAnyU _ _ _ _ _ _ _ _ (Act.put _ (some 93) _) _
  simp only [Act.put, List.setIfInBounds_toArray, List.set_cons_succ, List.set_cons_zero]
  refine wpAnyU_all (rs := [8]) (by kernel_rfl) (by simp) ?_
  intro j hj
  obtain rfl := List.mem_singleton.1 hj
  clear hj
  refine wpOp_shut rfl (fun K' HK => ?_)
  refine step_call rfl (f := 50) rfl Try.func50 (by kernel_rfl) rfl #[.int .i64 ((P.cells.length : Nat) + 1)] (by simp only [List.map_toArray, List.map_cons, List.map_nil]; rfl) ?_
  refine (sref_c _ _).mono ?_
  rintro e w11 ⟨rfl, hb'⟩
  refine ⟨_, rfl, ?_⟩
  unfold VD.agg refV
  dsimp only
  have HBw11 := hid (HBw10.out.trans (hb'.mono HBw10.out.size))
  clear hb'
  refine HK.out _ _ ⟨.inr ?_, ?_⟩
  · exact ⟨keepc HBw11.out y0, keepc HBw11.out z0, keepc HBw11.out z1, keepc HBw11.out z2⟩
  clear HK K'
  have hS := And.intro (keepc HBw11.out y0) (And.intro (keepc HBw11.out z0) (And.intro (keepc HBw11.out z1) (keepc HBw11.out z2)))
  change wpAnyU _ _ _ _ _ _ _ _ (Act.put _ (some 95) _) _
  simp only [Act.put, List.setIfInBounds_toArray, List.set_cons_succ, List.set_cons_zero]
  refine wpAnyU_all (rs := [9]) (by kernel_rfl) (by simp) ?_
  intro j hj
  obtain rfl := List.mem_singleton.1 hj
  clear hj
  refine wpOp_shut rfl (fun K' HK => ?_)
  refine step_call rfl (f := 49) rfl Try.func49 (by kernel_rfl) rfl #[.int .i64 0] (by simp only [List.map_toArray, List.map_cons, List.map_nil]; rfl) ?_
  refine (snum_c _ _).mono ?_
  rintro e w12 ⟨rfl, hb'⟩
  refine ⟨_, rfl, ?_⟩
  unfold VD.agg numV
  dsimp only
  have HBw12 := hid (HBw11.out.trans (hb'.mono HBw11.out.size))
  clear hb'
  refine HK.out _ _ ⟨.inr ?_, ?_⟩
  · exact ⟨keepc HBw12.out y0, keepc HBw12.out z0, keepc HBw12.out z1, keepc HBw12.out z2⟩
  clear HK K'
  have hS := And.intro (keepc HBw12.out y0) (And.intro (keepc HBw12.out z0) (And.intro (keepc HBw12.out z1) (keepc HBw12.out z2)))
  change wpAnyU _ _ _ _ _ _ _ _ (Act.put _ (some 96) _) _
  simp only [Act.put, List.setIfInBounds_toArray, List.set_cons_succ, List.set_cons_zero]
  refine wpAnyU_all (rs := [10]) (by kernel_rfl) (by simp) ?_
  intro j hj
  obtain rfl := List.mem_singleton.1 hj
  clear hj
  refine wpOp_shut rfl (fun K' HK => ?_)
  go_simp
  have HB13 := hid (HBw12.out.trans (((Below.refl w12.heap.size w12).alloc (Nat.le_refl _) (.cells #[.int .i64 this.kind, .int .i64 this.n, .string this.s, .int .i64 3, .int .i64 (k : Nat), .string ByteArray.empty, .int .i64 5, .int .i64 ((P.cells.length : Nat) + 1), .string ByteArray.empty, .int .i64 3, .int .i64 0, .string ByteArray.empty] 33)).mono HBw12.out.size))
  have r13 := heap_alloc_new w12 (.cells #[.int .i64 this.kind, .int .i64 this.n, .string this.s, .int .i64 3, .int .i64 (k : Nat), .string ByteArray.empty, .int .i64 5, .int .i64 ((P.cells.length : Nat) + 1), .string ByteArray.empty, .int .i64 3, .int .i64 0, .string ByteArray.empty] 33)
  refine HK.out _ _ ⟨.inr ?_, ?_⟩
  · exact ⟨keepc HB13.out y0, keepc HB13.out z0, keepc HB13.out z1, keepc HB13.out z2⟩
  clear HK K'
  have hS := And.intro (keepc HB13.out y0) (And.intro (keepc HB13.out z0) (And.intro (keepc HB13.out z1) (keepc HB13.out z2)))
  try simp only [Act.put, List.setIfInBounds_toArray, List.set_cons_succ, List.set_cons_zero]
  refine wpAnyU_take (i := 11) (v := (.agg #[.int .i64 6, .int .i64 0, .int .i64 0, .slice none 0 0, .slice (some ⟨w12.heap.size, 0, none⟩) 4 4])) rfl (by kernel_rfl) (fun _ _ _ h => h) (leads_of [[17]] (by kernel_rfl)) (by kernel_rfl) (by kernel_rfl) (by kernel_rfl) (Or.inl ⟨by rfl, ?_⟩) hS ?_
  · intro w' hS'
    obtain ⟨s0, s1, s2, s3⟩ := hS'
    go_simp
  change wpAnyU _ _ _ _ _ _ _ _ (Act.put _ (some 98) _) _
  simp only [Act.put, List.setIfInBounds_toArray, List.set_cons_succ, List.set_cons_zero]
  refine wpAnyU_all (rs := [12]) (by kernel_rfl) (by simp) ?_
  intro j hj
  obtain rfl := List.mem_singleton.1 hj
  clear hj
  refine wpOp_shut rfl (fun K' HK => ?_)
  refine step_call rfl (f := 47) rfl Try.func47 (by kernel_rfl) rfl #[.pointer (some ⟨G.hp, 0, none⟩), .agg #[.int .i64 6, .int .i64 0, .int .i64 0, .slice none 0 0, .slice (some ⟨w12.heap.size, 0, none⟩) 4 4]] (by simp only [List.map_toArray, List.map_cons, List.map_nil]; rfl) ?_
  refine ((HS.out.below HB13.out).h.alloc (c := genC this (k : Nat) ((P.cells.length : Nat) + 1)) (by have := HB13.out.size; have := HG6.out.fr.size; have := HB.out.size; omega) (by rw [List.length_set]; exact hL) HS.out.hp HS.out.cells (by simp; omega) ⟨RowR.nil _ _ _, RowR.of_own (rows := (genC this (k : Nat) ((P.cells.length : Nat) + 1)).vals.map VD.row) (own_of_block (n := 4) (sz := 3) r13 rfl (by decide)) (by decide) (HS.out.below HBw12.out).h.fam.fresh (by simp [genC, VD.row]) rfl⟩ ⟨by simp [genC], by simp [genC]⟩).mono ?_
  rintro e w14 ⟨he, D14, hH14, hG14⟩
  rw [show (((P.cells ++ [scopeC around (slotsD params slots.toNat args)]).length : Nat) : Int) + 1 = (P.cells.length : Nat) + 2 by simp; omega] at he
  subst he
  refine ⟨_, rfl, ?_⟩
  have HH14 := hid hH14
  have HG14 := hid hG14
  clear hH14 hG14
  refine HK.out _ _ ⟨.inr ?_, ?_⟩
  · exact ⟨(World.cell?_of_block (HG14.out.keep _ (Nat.lt_of_lt_of_le (block_lt_of_cell y0) HB13.out.size) (HS.out.ok.no_foot HS.out.h.fam (.inl rfl)))).trans (keepc HB13.out y0), (World.cell?_of_block (HG14.out.keep w.heap.size (Nat.lt_of_lt_of_le (block_lt_of_cell z0) HB13.out.size) (fun hf => (HG6.out.foot _ hf).elim (HNF.out _ (Nat.le_refl _)) (fun hx => by have := HB.out.size; omega)))).trans (keepc HB13.out z0), (World.cell?_of_block (HG14.out.keep w.heap.size (Nat.lt_of_lt_of_le (block_lt_of_cell z1) HB13.out.size) (fun hf => (HG6.out.foot _ hf).elim (HNF.out _ (Nat.le_refl _)) (fun hx => by have := HB.out.size; omega)))).trans (keepc HB13.out z1), (World.cell?_of_block (HG14.out.keep w.heap.size (Nat.lt_of_lt_of_le (block_lt_of_cell z2) HB13.out.size) (fun hf => (HG6.out.foot _ hf).elim (HNF.out _ (Nat.le_refl _)) (fun hx => by have := HB.out.size; omega)))).trans (keepc HB13.out z2)⟩
  clear HK K'
  have hS := And.intro ((World.cell?_of_block (HG14.out.keep _ (Nat.lt_of_lt_of_le (block_lt_of_cell y0) HB13.out.size) (HS.out.ok.no_foot HS.out.h.fam (.inl rfl)))).trans (keepc HB13.out y0)) (And.intro ((World.cell?_of_block (HG14.out.keep w.heap.size (Nat.lt_of_lt_of_le (block_lt_of_cell z0) HB13.out.size) (fun hf => (HG6.out.foot _ hf).elim (HNF.out _ (Nat.le_refl _)) (fun hx => by have := HB.out.size; omega)))).trans (keepc HB13.out z0)) (And.intro ((World.cell?_of_block (HG14.out.keep w.heap.size (Nat.lt_of_lt_of_le (block_lt_of_cell z1) HB13.out.size) (fun hf => (HG6.out.foot _ hf).elim (HNF.out _ (Nat.le_refl _)) (fun hx => by have := HB.out.size; omega)))).trans (keepc HB13.out z1)) ((World.cell?_of_block (HG14.out.keep w.heap.size (Nat.lt_of_lt_of_le (block_lt_of_cell z2) HB13.out.size) (fun hf => (HG6.out.foot _ hf).elim (HNF.out _ (Nat.le_refl _)) (fun hx => by have := HB.out.size; omega)))).trans (keepc HB13.out z2))))
  change wpAnyU _ _ _ _ _ _ _ _ (Act.put _ (some 99) _) _
  simp only [Act.put, List.setIfInBounds_toArray, List.set_cons_succ, List.set_cons_zero]
  refine wpAnyU_take (i := 13) (v := (.tuple #[.int .i64 ((P.cells.length : Nat) + 2), .int .i64 0])) rfl (by kernel_rfl) (fun _ _ _ h => h) (leads_of [[17]] (by kernel_rfl)) (by kernel_rfl) (by kernel_rfl) (by kernel_rfl) (Or.inl ⟨by rfl, ?_⟩) hS ?_
  · intro w' hS'
    obtain ⟨s0, s1, s2, s3⟩ := hS'
    go_simp
  change wpAnyU _ _ _ _ _ _ _ _ (Act.put _ (some 86) _) _
  simp only [Act.put, List.setIfInBounds_toArray, List.set_cons_succ, List.set_cons_zero]
  refine wpAnyU_take (i := 14) (v := (.int .i64 ((P.cells.length : Nat) + 2))) rfl (by kernel_rfl) (fun _ _ _ h => h) (leads_of [[17]] (by kernel_rfl)) (by kernel_rfl) (by kernel_rfl) (by kernel_rfl) (Or.inl ⟨by rfl, ?_⟩) hS ?_
  · intro w' hS'
    obtain ⟨s0, s1, s2, s3⟩ := hS'
    go_simp
  change wpAnyU _ _ _ _ _ _ _ _ (Act.put _ (some 100) _) _
  simp only [Act.put, List.setIfInBounds_toArray, List.set_cons_succ, List.set_cons_zero]
  refine wpAnyU_take (i := 15) (v := (.int .i64 0)) rfl (by kernel_rfl) (fun _ _ _ h => h) (leads_of [[17]] (by kernel_rfl)) (by kernel_rfl) (by kernel_rfl) (by kernel_rfl) (Or.inl ⟨by rfl, ?_⟩) hS ?_
  · intro w' hS'
    obtain ⟨s0, s1, s2, s3⟩ := hS'
    go_simp
  change wpAnyU _ _ _ _ _ _ _ _ (Act.put _ (some 101) _) _
  simp only [Act.put, List.setIfInBounds_toArray, List.set_cons_succ, List.set_cons_zero]
  refine wpAnyU_take (i := 16) (v := (.int .i64 ((P.cells.length : Nat) + 2))) rfl (by kernel_rfl) (fun _ _ _ h => h) (leads_of [[17]] (by kernel_rfl)) (by kernel_rfl) (by kernel_rfl) (by kernel_rfl) (Or.inl ⟨by rfl, ?_⟩) hS ?_
  · intro w' hS'
    obtain ⟨s0, s1, s2, s3⟩ := hS'
    go_simp
  change wpAnyU _ _ _ _ _ _ _ _ (Act.put _ (some 15) _) _
  simp only [Act.put, List.setIfInBounds_toArray, List.set_cons_succ, List.set_cons_zero]
  refine wpAnyU_all (rs := [17]) (by kernel_rfl) (by simp) ?_
  intro j hj
  obtain rfl := List.mem_singleton.1 hj
  clear hj
  refine wpOp_shut rfl (fun K' HK => ?_)
  go_simp
  refine HK.out _ _ ⟨.inl (by decide), ?_⟩
  clear HK K'
  try simp only [Act.put, List.setIfInBounds_toArray, List.set_cons_succ, List.set_cons_zero]
  refine wpAnyU_done (by kernel_rfl) ?_ _
  have hS14 := (HS.out.below HB13.out).goes HH14.out HG14.out
  have hM14 := (HM.out.trans (SMv.below D6 G HB13.out)).trans (SMv.goes (B := B) G HG14.out)
  have HS14 := hid hS14
  have HM14 := hid hM14
  clear hS hS14 hM14 r13 y0 z0 z1 z2 HBw10 HBw11 HBw12
  go_wp2_with fail
  refine (last_c HS14.out.ok hm efs hc1 hc2).mono ?_
  rintro e w15 ⟨rfl, hb15⟩
  go_upto_region 19 with fail
  have HS15 := hid (HS14.out.below hb15)
  have HM15 := hid (HM14.out.trans (SMv.below D14 G hb15))
  clear HS14 HM14 HH14 HG14 HB13 hb15 HS HM HH6 HG6 HB HV HA5 H5 BW5 hcl ecl q3'
  obtain ⟨cl, Av, pv, hcl, ecl, v6⟩ := HS15.out.ok.valsAt efs hl
  have ltg := block_lt_of_cell v6
  refine wp_region_until [11] (S := (fun w' => w'.cell? ⟨g, m * 9 + 6, none⟩ = some (.slice Av Fl.vals.length pv))) (by kernel_rfl) ?_ ?_
  · exact v6
  intro hS
  refine wpAnyU_take (i := 0) (v := (.pointer (some ⟨g, m * 9, none⟩))) rfl (by kernel_rfl) (fun _ _ _ h => h) (leads_of [[11]] (by kernel_rfl)) (by kernel_rfl) (by kernel_rfl) (by kernel_rfl) (Or.inl ⟨by rfl, ?_⟩) hS ?_
  · intro w' hS'
    have s0 := hS'
    go_simp
  change wpAnyU _ _ _ _ _ _ _ _ (Act.put _ (some 104) _) _
  simp only [Act.put, List.setIfInBounds_toArray, List.set_cons_succ, List.set_cons_zero]
  refine wpAnyU_take (i := 1) (v := (.pointer (some ⟨g, m * 9, none⟩))) rfl (by kernel_rfl) (fun _ _ _ h => h) (leads_of [[11]] (by kernel_rfl)) (by kernel_rfl) (by kernel_rfl) (by kernel_rfl) (Or.inl ⟨by rfl, ?_⟩) hS ?_
  · intro w' hS'
    have s0 := hS'
    go_simp
  change wpAnyU _ _ _ _ _ _ _ _ (Act.put _ (some 105) _) _
  simp only [Act.put, List.setIfInBounds_toArray, List.set_cons_succ, List.set_cons_zero]
  refine wpAnyU_take (i := 2) (v := (.pointer (some ⟨g, m * 9, none⟩))) rfl (by kernel_rfl) (fun _ _ _ h => h) (leads_of [[11]] (by kernel_rfl)) (by kernel_rfl) (by kernel_rfl) (by kernel_rfl) (Or.inl ⟨by rfl, ?_⟩) hS ?_
  · intro w' hS'
    have s0 := hS'
    go_simp
  change wpAnyU _ _ _ _ _ _ _ _ (Act.put _ (some 106) _) _
  simp only [Act.put, List.setIfInBounds_toArray, List.set_cons_succ, List.set_cons_zero]
  refine wpAnyU_take (i := 3) (v := (.pointer (some ⟨g, m * 9 + 6, none⟩))) rfl (by kernel_rfl) (fun _ _ _ h => h) (leads_of [[11]] (by kernel_rfl)) (by kernel_rfl) (by kernel_rfl) (by kernel_rfl) (Or.inl ⟨by rfl, ?_⟩) hS ?_
  · intro w' hS'
    have s0 := hS'
    go_simp
  change wpAnyU _ _ _ _ _ _ _ _ (Act.put _ (some 107) _) _
  simp only [Act.put, List.setIfInBounds_toArray, List.set_cons_succ, List.set_cons_zero]
  refine wpAnyU_take (i := 4) (v := (.slice Av Fl.vals.length pv)) rfl (by kernel_rfl) (fun _ _ _ h => h) (leads_of [[11]] (by kernel_rfl)) (by kernel_rfl) (by kernel_rfl) (by kernel_rfl) (Or.inl ⟨by rfl, ?_⟩) hS ?_
  · intro w' hS'
    have s0 := hS'
    go_simp
  change wpAnyU _ _ _ _ _ _ _ _ (Act.put _ (some 108) _) _
  simp only [Act.put, List.setIfInBounds_toArray, List.set_cons_succ, List.set_cons_zero]
  refine wpAnyU_take (i := 5) (v := (.int .i64 ((P.cells.length : Nat) + 2))) rfl (by kernel_rfl) (fun _ _ _ h => h) (leads_of [[11]] (by kernel_rfl)) (by kernel_rfl) (by kernel_rfl) (by kernel_rfl) (Or.inl ⟨by rfl, ?_⟩) hS ?_
  · intro w' hS'
    have s0 := hS'
    go_simp
  change wpAnyU _ _ _ _ _ _ _ _ (Act.put _ (some 109) _) _
  simp only [Act.put, List.setIfInBounds_toArray, List.set_cons_succ, List.set_cons_zero]
  refine wpAnyU_all (rs := [6]) (by kernel_rfl) (by simp) ?_
  intro j hj
  obtain rfl := List.mem_singleton.1 hj
  clear hj
  refine wpOp_shut rfl (fun K' HK => ?_)
  refine step_call rfl (f := 50) rfl Try.func50 (by kernel_rfl) rfl #[.int .i64 ((P.cells.length : Nat) + 2)] (by simp only [List.map_toArray, List.map_cons, List.map_nil]; rfl) ?_
  refine (sref_c _ _).mono ?_
  rintro e w16 ⟨rfl, hb'⟩
  refine ⟨_, rfl, ?_⟩
  unfold VD.agg refV
  dsimp only
  have HBw16 := hid (below_drew hb')
  clear hb'
  refine HK.out _ _ ⟨.inr ?_, ?_⟩
  · exact keepc HBw16.out v6
  clear HK K'
  have hS := keepc HBw16.out v6
  change wpAnyU _ _ _ _ _ _ _ _ (Act.put _ (some 110) _) _
  simp only [Act.put, List.setIfInBounds_toArray, List.set_cons_succ, List.set_cons_zero]
  refine wpAnyU_all (rs := [7]) (by kernel_rfl) (by simp) ?_
  intro j hj
  obtain rfl := List.mem_singleton.1 hj
  clear hj
  refine wpOp_shut rfl (fun K' HK => ?_)
  go_simp
  have HB17 := hid (HBw16.out.trans (((Below.refl w16.heap.size w16).alloc (Nat.le_refl _) (.cells #[.int .i64 5, .int .i64 ((P.cells.length : Nat) + 2), .string ByteArray.empty] 33)).mono HBw16.out.size))
  have r17 := heap_alloc_new w16 (.cells #[.int .i64 5, .int .i64 ((P.cells.length : Nat) + 2), .string ByteArray.empty] 33)
  refine HK.out _ _ ⟨.inr ?_, ?_⟩
  · exact keepc HB17.out v6
  clear HK K'
  have hS := keepc HB17.out v6
  try simp only [Act.put, List.setIfInBounds_toArray, List.set_cons_succ, List.set_cons_zero]
  refine wpAnyU_all (rs := [8]) (by kernel_rfl) (by simp) ?_
  intro j hj
  obtain rfl := List.mem_singleton.1 hj
  clear hj
  refine wpOp_shut rfl (fun K' HK => ?_)
  have HS17 := hid (HS15.out.below HB17.out)
  have HX := hid (HS17.out.ok.row m Fl cl hl hcl).vals
  have hown : (w16.alloc (.cells #[.int .i64 5, .int .i64 ((P.cells.length : Nat) + 2), .string ByteArray.empty] 33)).ownsRow B 33 3 (.slice Av Fl.vals.length pv) Fl.vals.length (Fl.vals.map VD.row).flatten := by
    have := HX.out.own
    rw [ecl, List.length_map] at this
    exact this
  have HOwn := hid hown
  clear hown
  refine step_append_lies _ (by rfl) (.tmp 108) (.tmp 111) 31 (by rfl) B 33 i0 (.agg #[.int .i64 0, .int .i64 0, .string ByteArray.empty]) 3 32 Try.underlying31 HI.out hz0 hz1 hz2 rfl (by decide) (.slice Av Fl.vals.length pv) Fl.vals.length (Fl.vals.map VD.row).flatten ?c1 ?c2 ⟨w16.heap.size, 0, none⟩ 1 1 (refV ((P.cells.length : Nat) + 2)).row ?c3 rfl ?c4 ?c5 (by decide) ?c6 ?c7 ?c8 _ rfl ?_
  (case c1 => rfl)
  (case c2 => exact HOwn.out)
  (case c3 => rfl)
  (case c4 => exact World.news_of_block r17)
  (case c5 => simp [refV, VD.row, Value.oneCell'])
  (case c6 => unfold maxLen; omega)
  (case c7 => omega)
  (case c8 => have := HS17.out.ok.base; have := (HS17.out.ok.foot_lt (.inl rfl)).1; omega)
  intro gv capv w18 ho18 hg18 hgl18 hlt18
  have hgn : (valsOf cl).ownBlock ≠ some g := fun e => absurd ((HX.out.typ e).1.uniq (HS17.out.ok.fr.typ (k := g) (by rw [efs]; rfl)).1) (by decide)
  have hp18 : w18.heap[g]? = (w16.alloc (.cells #[.int .i64 5, .int .i64 ((P.cells.length : Nat) + 2), .string ByteArray.empty] 33)).heap[g]? := hg18.block _ (Nat.lt_of_lt_of_le ltg HB17.out.size) (fun e => hgn (by rw [ecl]; exact e.symm))
  have hfz : (w16.alloc (.cells #[.int .i64 5, .int .i64 ((P.cells.length : Nat) + 2), .string ByteArray.empty] 33)).frozen? ⟨g, m * 9 + 6, none⟩ = false := by
    have h1 := HS17.out.ok.fr
    rw [efs] at h1
    exact xr_frozen h1 _
  have m0 : w18.cell? ⟨g, m * 9 + 6, none⟩ = some (.slice Av Fl.vals.length pv) := (World.cell?_of_block (a := ⟨g, m * 9 + 6, none⟩) hp18).trans hS
  have m1 : w18.frozen? ⟨g, m * 9 + 6, none⟩ = false := (World.frozen?_of_block (a := ⟨g, m * 9 + 6, none⟩) hp18).trans hfz
  have HO18 := hid ho18
  have HG18 := hid hg18
  have HGL := hid hgl18
  have HLT := hid hlt18
  clear ho18 hg18 hgl18 hlt18 hfz hp18
  refine HK.out _ _ ⟨.inr ?_, ?_⟩
  · exact m0
  clear HK K'
  have hS := m0
  change wpAnyU _ _ _ _ _ _ _ _ (Act.put _ (some 112) _) _
  simp only [Act.put, List.setIfInBounds_toArray, List.set_cons_succ, List.set_cons_zero]
  refine wpAnyU_take (i := 9) (v := (.pointer (some ⟨g, m * 9, none⟩))) rfl (by kernel_rfl) (fun _ _ _ h => h) (leads_of [[10, 11]] (by kernel_rfl)) (by kernel_rfl) (by kernel_rfl) (by kernel_rfl) (Or.inl ⟨by rfl, ?_⟩) hS ?_
  · intro w' hS'
    have s0 := hS'
    go_simp
  change wpAnyU _ _ _ _ _ _ _ _ (Act.put _ (some 113) _) _
  simp only [Act.put, List.setIfInBounds_toArray, List.set_cons_succ, List.set_cons_zero]
  refine wpAnyU_take (i := 10) (v := (.pointer (some ⟨g, m * 9 + 6, none⟩))) rfl (by kernel_rfl) (fun _ _ _ h => h) (leads_of [[11]] (by kernel_rfl)) (by kernel_rfl) (by kernel_rfl) (by kernel_rfl) (Or.inl ⟨by rfl, ?_⟩) hS ?_
  · intro w' hS'
    have s0 := hS'
    go_simp
  change wpAnyU _ _ _ _ _ _ _ _ (Act.put _ (some 114) _) _
  simp only [Act.put, List.setIfInBounds_toArray, List.set_cons_succ, List.set_cons_zero]
  refine wpAnyU_all (rs := [11]) (by kernel_rfl) (by simp) ?_
  intro j hj
  obtain rfl := List.mem_singleton.1 hj
  clear hj
  refine wpOp_shut rfl (fun K' HK => ?_)
  go_simp
  refine HK.out _ _ ⟨.inl (by decide), ?_⟩
  clear HK K'
  refine wpAnyU_done (by kernel_rfl) ?_ _
  have hfin := HS17.out.pushVal (x := refV ((P.cells.length : Nat) + 2)) efs hcl hl rfl HO18.out (by rw [ecl]; exact HG18.out) (by rw [ecl]; exact HGL.out) HLT.out
  have HS19 := hid hfin.1
  have HM19 := hid ((HM15.out.trans (SMv.below D14 G HB17.out)).trans hfin.2)
  clear hfin m0 m1 hS HS17 HS15 HM15
  go_wp2_with fail
  go_ret
  refine ⟨rfl, _, _, _, ?_, HM19.out⟩
  have := HS19.out
  simpa only [List.set_set, List.append_assoc, List.cons_append, List.nil_append] using this
end
end Go.Proofs.Ytdgpblhmfkpblaa.Pg
