/- Enter: a frame more. -/
import Derived.Test.YtdgpblhmfkpblaaSt7
namespace Go.Proofs.Ytdgpblhmfkpblaa.Pg
open Go.RowKit

section
variable {B B' : Bd} {w w' : World} {G G' : SG} {P P' : PS} {D D' : FD} {hs : List Nat} {L : List (Option (List CD))} {i : Nat}

def scopeC (around : Int) (l : List VD) : CD := ⟨4, around, 0, [], l⟩

set_option maxHeartbeats 800000 in
set_option maxRecDepth 100000 in
theorem enter_c (h : Sta B w D hs L i G P) (hL : L.length ≤ 1000) {fs : List FunD} {Af : Option Addr} {nf pf : Nat} (hfu : G.funs = .slice Af nf pf) (hF : RowR B w 5 (.slice Af nf pf) (fs.map FunD.row)) {k : Nat} {f : FunD} (hk : fs[k]? = some f) (hgen : f.gen = false) (hcode : ∃ A n c, f.code = .slice A n c)
    (hs0 : 0 ≤ f.slots) (hs1 : f.slots ≤ 1000) (around : Int) (this : VD) {args : List VD} {A : Option Addr} {n cap : Nat} (ha : RowR B w 3 (.slice A n cap) (args.map VD.row)) (hfr : P.frames.length < 64) (hroom : P.cells.length + 1 ≤ 4096) :
    Calls Try.prog 16 #[ptr G.at_, .int .i64 (k : Nat), .int .i64 around, this.agg, .slice A n cap] w fun e w' => e = .returned (.int .i64 0) ∧ ∃ B' D' G', Sta B' w' D' hs (L.set i (some (P.cells ++ [scopeC around (slotsD f.params f.slots.toNat args)]))) i G'
      { P with cells := P.cells ++ [scopeC around (slotsD f.params f.slots.toNat args)], frames := P.frames ++ [⟨k, 0, (P.cells.length : Nat) + 1, this, [], [], 0⟩] } ∧ SMv B w D G B' w' D' G' := by
  obtain ⟨i0, hi, hz0, hz1, hz2⟩ := info_parts infoFrame
  have HI := hid hi
  clear hi
  have hxr : (fs.map FunD.row)[k]? = some f.row := by rw [List.getElem?_map, hk]; rfl
  obtain ⟨name, params, slots, gen, code⟩ := f
  obtain ⟨Ac, nc, pc, rfl⟩ := hcode
  simp only at hgen hs0 hs1
  subst hgen
  obtain ⟨hn1, hn2, hget⟩ := hF.get
  rw [List.length_map] at hn1
  have hkl := (List.getElem?_eq_some_iff.1 hk).1
  obtain ⟨bf, of, rfl, -, hcf⟩ := hget k _ hxr
  have bW : Below w.heap.size w (w.alloc (.cells #[.int .i64 this.kind, .int .i64 this.n, .string this.s] 33)) := (Below.refl _ _).alloc (Nat.le_refl _) _
  have r1 := heap_alloc_new w (.cells #[.int .i64 this.kind, .int .i64 this.n, .string this.s] 33)
  have l1 : (w.alloc (.cells #[.int .i64 this.kind, .int .i64 this.n, .string this.s] 33)).heap.size = w.heap.size + 1 := by simp
  have hF1 := hF.move (Fr.of_below bW)
  obtain ⟨_, _, hget1⟩ := hF1.get
  obtain ⟨bf', of', e', -, hcf1⟩ := hget1 k _ hxr
  injection e' with e'
  injection e' with e1 e2
  subst e1 e2
  have HF := hid hF1
  have HA := hid (ha.move (Fr.of_below bW))
  have H := hid (h.below bW)
  have BW := hid bW
  clear hF hF1 hget hget1 hcf ha bW
  have hkn : (k : Int) < (nf : Int) := by omega
  unfold ptr VD.agg
  go_enter Try.func16, Try.ntmps16
  go_upto_region 3 with fail
  generalize (w.alloc (.cells #[.int .i64 this.kind, .int .i64 this.n, .string this.s] 33)) = W at BW r1 l1 H HA HF hcf1 ⊢
  have q0 := hcf1 0 _ rfl
  have q1 := hcf1 1 _ rfl
  have q2 := hcf1 2 _ rfl
  have q3 := hcf1 3 _ rfl
  have q4 := hcf1 4 _ rfl
  simp only [Nat.add_zero] at q0
  have c13 := H.out.ok.c (k := 13) (u := .slice (some ⟨bf, of, none⟩) nf pf) (by rw [← hfu]; rfl)
  clear hcf1
  have l2 : w.heap.size < W.heap.size := by omega
  go_upto_region 4 with fail
  have bW2 : Below W.heap.size W (W.alloc (.cells #[.string name, .int .i64 params, .int .i64 slots, .bool false, .slice Ac nc pc] 28)) := (Below.refl _ _).alloc (Nat.le_refl _) _
  have r2 := heap_alloc_new W (.cells #[.string name, .int .i64 params, .int .i64 slots, .bool false, .slice Ac nc pc] 28)
  rw [l1] at r2
  have r1' := (bW2.block w.heap.size l2).trans r1
  have l3 : (W.alloc (.cells #[.string name, .int .i64 params, .int .i64 slots, .bool false, .slice Ac nc pc] 28)).heap.size = w.heap.size + 2 := by simp [l1]
  have HA2 := hid (HA.out.move (Fr.of_below bW2))
  have H2 := hid (H.out.below bW2)
  have BW2 := hid (BW.out.trans (bW2.mono (Nat.le_of_lt l2)))
  clear q0 q1 q2 q3 q4 c13 HA H BW r1 HF bW2
  generalize (W.alloc (.cells #[.string name, .int .i64 params, .int .i64 slots, .bool false, .slice Ac nc pc] 28)) = W2 at HA2 H2 BW2 r1' r2 l3 ⊢
  clear l2 l1 W
  obtain ⟨Afr, pfr, efr⟩ := H2.out.ok.fr.slice
  have hfl : (P.frames.length : Int) < 64 := by omega
  have efr' : G.fsl = .slice Afr P.frames.length pfr := by rw [efr, H2.out.ok.len]
  have c5 := H2.out.ok.c (k := 5) (u := .slice Afr P.frames.length pfr) (by rw [← efr']; rfl)
  have t0 : decide ((64 : Int) ≤ (P.frames.length : Nat)) = false := by simp; omega
  have t1 : decide ((P.cells.length : Nat) + (1 : Int) ≤ 4096) = true := by simp; omega
  have q0 := (cell_of_row _ _ 0 _ _ _ r2).trans (b := some (Value.string name)) rfl
  have q1 := (cell_of_row _ _ 1 _ _ _ r2).trans (b := some (Value.int .i64 params)) rfl
  have q2 := (cell_of_row _ _ 2 _ _ _ r2).trans (b := some (Value.int .i64 slots)) rfl
  have q3 := (cell_of_row _ _ 3 _ _ _ r2).trans (b := some (Value.bool false)) rfl
  have q4 := (cell_of_row _ _ 4 _ _ _ r2).trans (b := some (Value.slice Ac nc pc)) rfl
  go_wp2_with fail
  refine (room_c H2.out (n := 1) (by omega) (by omega)).mono ?_
  rintro e w3 ⟨rfl, rfl⟩
  go_upto_region 13 with fail
  have c0 := H2.out.ok.c (k := 0) (u := ptr G.hp) rfl
  unfold ptr at c0
  have hat := (H2.out.ok.foot_lt (.inl rfl)).1
  have hnf : ∀ x, w.heap.size ≤ x → ¬ Foot D x := fun x hx hf => by have := (h.h.fam.foot_lt hf).1; omega
  have HNF := hid hnf
  clear hnf c5
  go_region_law (first
    | (refine step_call rfl (f := 48) rfl Try.func48 (by kernel_rfl) rfl #[.agg #[.string name, .int .i64 params, .int .i64 slots, .bool false, .slice Ac nc pc], .slice A n cap] (by simp only [List.map_toArray, List.map_cons, List.map_nil]; rfl) ?_; refine (slots_c (f := ⟨name, params, slots, false, .slice Ac nc pc⟩) (args := args) (B := B) (HA2.out.move Fr.drew) hs0 (by simp only; omega)).mono ?_; rintro e w4 ⟨v', rfl, hb', hv'⟩; refine ⟨_, rfl, ?_⟩; obtain ⟨A1, p1, e1⟩ := hv'.slice; subst e1; have hb := below_drew hb'; have y0 := carry hb hat c0; have HB := hid hb; have HV := hid hv'; clear hb hb' hv')
    | (refine step_call rfl (f := 47) rfl Try.func47 (by kernel_rfl) rfl #[.pointer (some ⟨G.hp, 0, none⟩), .agg #[.int .i64 4, .int .i64 around, .int .i64 0, .slice none 0 0, .slice A1 (slotsD params slots.toNat args).length p1]] (by simp only [List.map_toArray, List.map_cons, List.map_nil]; rfl) ?_; refine ((H2.out.below HB.out).h.alloc (c := scopeC around (slotsD params slots.toNat args)) (Nat.le_trans h.ok.base (by have := HB.out.size; omega)) hL h.hp h.cells (by omega) ⟨RowR.nil _ _ _, HV.out.rowR (fun k hk => ?_)⟩ ⟨by simp [scopeC], by simp [scopeC, slotsD_length]; omega⟩).mono ?_; (first | exact (H2.out.h.fam.fresh k hk)); rintro e w5 ⟨rfl, D5, hH5, hG5⟩; refine ⟨_, rfl, ?_⟩; have HH5 := hid hH5; have HG5 := hid hG5; clear hH5 hG5))
  all_goals
    have hS := (H2.out.below HB.out).goes HH5.out HG5.out
    have hM := ((SMv.below D G BW2.out).trans (SMv.below D G HB.out)).trans (SMv.goes (B := B) G HG5.out)
    have s4 := HB.out.size
    have e1 : w5.heap[w.heap.size]? = w3.heap[w.heap.size]? := (HG5.out.keep _ (by omega) (HNF.out _ (Nat.le_refl _))).trans (HB.out.block _ (by omega))
    have e2 : w5.heap[w.heap.size + 1]? = w3.heap[w.heap.size + 1]? := (HG5.out.keep _ (by omega) (HNF.out _ (by omega))).trans (HB.out.block _ (by omega))
    have p1 := e1.trans r1'
    have p2 := e2.trans r2
    have z0 := (cell_of_row _ _ 0 _ _ _ p1).trans (b := some (Value.int .i64 this.kind)) rfl
    have z1 := (cell_of_row _ _ 1 _ _ _ p1).trans (b := some (Value.int .i64 this.n)) rfl
    have z2 := (cell_of_row _ _ 2 _ _ _ p1).trans (b := some (Value.string this.s)) rfl
    have q3' := (cell_of_row _ _ 3 _ _ _ p2).trans (b := some (Value.bool false)) rfl
    have c5 := hS.ok.c (k := 5) (u := .slice Afr P.frames.length pfr) (by rw [← efr']; rfl)
    have f5 := hS.ok.frozen 5
    have hat5 := (hS.ok.foot_lt (.inl rfl)).1
    have HS := hid hS
    have HM := hid hM
    clear q0 q1 q2 q3 q4 y0 c0 e1 e2 p1 p2 r1' r2 hS hM
    have hown : (w5.drew.alloc (.cells (frameRow ⟨k, 0, (P.cells.length : Nat) + 1, this, [], [], 0⟩ (.slice none 0 0) (.slice none 0 0)).toArray 50)).ownsRow B 50 9 (.slice Afr P.frames.length pfr) P.frames.length G.rows.flatten := by
      have := (HS.out.ok.fr.own).alloc (.cells (frameRow ⟨k, 0, (P.cells.length : Nat) + 1, this, [], [], 0⟩ (.slice none 0 0) (.slice none 0 0)).toArray 50)
      rw [efr', HS.out.ok.len] at this
      exact this
    have HOwn := hid hown
    clear hown
    go_upto_region 15 with fail
    go_region_law (first
    | (refine step_append_lies _ (by rfl) (.tmp 76) (.tmp 81) 38 (by rfl) B 50 i0 (.agg #[.int .i64 0, .int .i64 0, .int .i64 0, .int .i64 0, .int .i64 0, .string ByteArray.empty, .slice none 0 0, .slice none 0 0, .int .i64 0]) 9 112 Try.underlying38 HI.out hz0 hz1 hz2 rfl (by decide) (.slice Afr P.frames.length pfr) P.frames.length G.rows.flatten ?c1 ?c2 ⟨w5.heap.size, 0, none⟩ 1 1 (frameRow ⟨k, 0, (P.cells.length : Nat) + 1, this, [], [], 0⟩ (.slice none 0 0) (.slice none 0 0)) ?c3 rfl ?c4 ?c5 (by decide) ?c6 ?c7 ?c8 _ rfl ?_;
       (case c1 => rfl); (case c2 => exact HOwn.out); (case c3 => rfl); (case c4 => exact World.news_of_block (heap_alloc_new _ _)); (case c5 => simp [frameRow, Value.oneCell']); (case c6 => unfold maxLen; omega); (case c7 => omega); (case c8 => simp; have := HS.out.ok.base; omega);
       intro g cap6 w6 ho6 hg6 hgl6 hlt6;
       have hp6 : w6.heap[G.at_]? = w5.heap[G.at_]? := (hg6.block _ (by simp; omega) (fun e => absurd ((own_typ HOwn.out e.symm).1.uniq ((Typ.of HS.out.ok.cell).move (heap_alloc_old w5 _ hat5))) (by decide))).trans (heap_alloc_old w5 _ hat5);
       have m0 : w6.cell? ⟨G.at_, 5, none⟩ = some (.slice Afr P.frames.length pfr) := (World.cell?_of_block (w := w5) (a := ⟨G.at_, 5, none⟩) hp6).trans c5;
       have m1 : w6.frozen? ⟨G.at_, 5, none⟩ = false := (World.frozen?_of_block (w := w5) (a := ⟨G.at_, 5, none⟩) hp6).trans f5;
       have HO6 := hid ho6; have HG6 := hid hg6; have HGL := hid hgl6; have HLT := hid hlt6; clear ho6 hg6 hgl6 hlt6 hp6))
    all_goals
      have hb6 : Below w5.heap.size w5 (w5.alloc (.cells (frameRow ⟨k, 0, (P.cells.length : Nat) + 1, this, [], [], 0⟩ (.slice none 0 0) (.slice none 0 0)).toArray 50)).drew := ((Below.refl _ _).alloc (Nat.le_refl _) _).drew
      obtain ⟨G', hS', hM'⟩ := (HS.out.below hb6).pushFrame (F := ⟨k, 0, (P.cells.length : Nat) + 1, this, [], [], 0⟩) rfl rfl (n := P.frames.length) HS.out.ok.len HO6.out (by rw [efr']; exact HG6.out) (by rw [efr']; simpa using HGL.out) HLT.out
      have HS' := hid hS'
      have HM' := hid ((HM.out.trans (SMv.below _ _ hb6)).trans hM')
      clear hS' hM' m0 m1 c5 f5 z0 z1 z2 q3' hb6
      go_wp2
      go_ret
      exact ⟨rfl, _, _, _, HS'.out, HM'.out⟩
end
end Go.Proofs.Ytdgpblhmfkpblaa.Pg
