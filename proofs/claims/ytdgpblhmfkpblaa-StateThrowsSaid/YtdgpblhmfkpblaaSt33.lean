/- StateEnters, walked. -/
import Derived.Test.YtdgpblhmfkpblaaSt28
import Derived.Test.YtdgpblhmfkpblaaSt31
namespace Go.Proofs.Ytdgpblhmfkpblaa.Pg
open Go.RowKit

def meV : VD := ⟨4, 0, ⟨#[109, 101]⟩⟩
theorem rnumM_c {w : World} (n : Int) : Calls Try.prog 15 #[.int .i64 n] w fun e w' => e = .returned (.agg #[.int .i64 3, .int .i64 n, .string ByteArray.empty]) ∧ Below w.heap.size w w' := rnum_c n
theorem rrefM_c {w : World} (n : Int) : Calls Try.prog 19 #[.int .i64 n] w fun e w' => e = .returned (.agg #[.int .i64 5, .int .i64 n, .string ByteArray.empty]) ∧ Below w.heap.size w w' := rref_c n
theorem rstrL_c {w : World} (s : ByteArray) : Calls Try.prog 17 #[.string s] w fun e w' => e = .returned (.agg #[.int .i64 4, .int .i64 0, .string s]) ∧ Below w.heap.size w w' := by
  go_enter Try.func17, Try.ntmps17
  go_wp2
  obtain ⟨y0, y1, y2⟩ := val_cells w (.int .i64 4) (.int .i64 0) (.string s)
  refine bodyPost_ret (v := .agg #[.int .i64 4, .int .i64 0, .string s]) (by simp [results, Try.results17, go_sem, y0, y1, y2] <;> rfl) rfl ?_
  exact ⟨rfl, (Below.refl _ _).alloc (Nat.le_refl _) _⟩
theorem ViewR.frameAt {B : Bd} {w : World} {Ac A1 A2 A3 : Option Addr} {p1 p2 p3 : Nat} {rows : List (List Value)} {P : PS} (h : ViewR B w Ac A1 p1 A2 p2 A3 p3 rows P) {j : Nat} {F : FrD} (hF : P.frames[j]? = some F) :
    ∃ b o A p A' n' p', A1 = some ⟨b, o, none⟩ ∧ (∀ i u, (frameRow F (.slice A F.vals.length p) (.slice A' n' p'))[i]? = some u → w.cell? ⟨b, o + (j * 9 + i), none⟩ = some u) ∧ RowR B0 w 3 (.slice A F.vals.length p) (F.vals.map VD.row) := by
  obtain ⟨c, hc, A, n, p, A', n', p', e, hv, _⟩ := h.frs.2 j F hF
  obtain ⟨b, o, e', _, hcell⟩ := h.fr.get.2.2 j c hc
  have hn := hv.get.1
  rw [List.length_map] at hn
  subst hn
  exact ⟨b, o, A, p, A', n', p', e', fun i u hu => by rw [← Nat.add_assoc]; exact hcell i u (by rw [e]; exact hu), hv⟩
def pN0 : PS := ⟨0, [scopeC 0 [holeV]], [⟨0, 0, 1, undefV, [], [], 0⟩], [], []⟩
def gE (p n : Int) (gen : Bool) : FunD := ⟨ByteArray.empty, p, n, gen, .slice none 0 0⟩
def argsL (k : Nat) : List VD := (List.range k).map (fun j => numV ((j : Nat) + 1))
theorem argsL_succ (k : Nat) : argsL (k + 1) = argsL k ++ [numV ((k : Nat) + 1)] := by simp [argsL, List.range_succ]
theorem argsL_length (k : Nat) : (argsL k).length = k := by simp [argsL]
def pe (gen : Bool) (l : List VD) : PS := if gen then ⟨0, [scopeC 0 [holeV], scopeC 1 l, genC meV 1 2], [⟨0, 0, 1, undefV, [refV 3], [], 0⟩], [], []⟩ else ⟨0, [scopeC 0 [holeV], scopeC 1 l], [⟨0, 0, 1, undefV, [], [], 0⟩, ⟨1, 0, 2, meV, [], [], 0⟩], [], []⟩
section
variable {B B' : Bd} {w w' : World} {G G' : SG} {D D' : FD}
theorem enters_step {gen : Bool} {p s : Nat} (hp : p ≤ 4) (hs : s ≤ 4) (h : St1 B w D G pN0) {Af : Option Addr} {nf pp : Nat} (hfu : G.funs = .slice Af nf pp) (hF : RowR B w 5 (.slice Af nf pp) ([insFun 1 (.slice none 0 0), gE p ((p : Nat) + (s : Nat)) gen].map FunD.row))
    {args : List VD} {A : Option Addr} {n cap : Nat} (ha : RowR B w 3 (.slice A n cap) (args.map VD.row)) :
    Calls Try.prog 16 #[ptr G.at_, .int .i64 1, .int .i64 1, .agg #[.int .i64 4, .int .i64 0, .string ⟨#[109, 101]⟩], .slice A n cap] w fun e w' => e = .returned (.int .i64 0) ∧ ∃ B' D' G', St1 B' w' D' G' (pe gen (slotsD p (p + s) args)) ∧ SMv B w D G B' w' D' G' := by
  have e : ((p : Int) + (s : Int)).toNat = p + s := by omega
  cases gen
  · refine (enter_c h (by simp) hfu hF (k := 1) (f := gE p ((p : Nat) + (s : Nat)) false) rfl rfl ⟨_, _, _, rfl⟩ (by simp only [gE]; omega) (by simp only [gE]; omega) 1 meV ha (by decide) (by decide)).mono ?_
    simp only [gE, e]
    rintro e w' ⟨rfl, B', D', G', hS, hM⟩
    exact ⟨rfl, B', D', G', St1.of hS hM, hM⟩
  · refine (enter_gen h hfu hF (k := 1) (f := gE p ((p : Nat) + (s : Nat)) true) rfl ⟨_, _, _, rfl⟩ 1 meV ha (by simp) rfl (by simp only [gE]; omega) (by simp only [gE]; omega) (by decide) (by decide) (m := 0) rfl (Fl := ⟨0, 0, 1, undefV, [], [], 0⟩) rfl (by decide)).mono ?_
    simp only [gE, e]
    rintro e w' ⟨rfl, B', D', G', hS, hM⟩
    exact ⟨rfl, B', D', G', St1.of hS hM, hM⟩
end
theorem pe_ok (gen : Bool) (l : List VD) : (pe gen l).ok := by
  cases gen
  · exact ⟨by simp [pe], by simp [pe], by simp [pe], by simp [pe], by simp [pe]⟩
  · exact ⟨by simp [pe], by simp [pe], by simp [pe], by simp [pe], by simp [pe]⟩
set_option maxHeartbeats 6400000 in
set_option maxRecDepth 100000 in
theorem enters_law (w : World) (a b c : Int) (gen : Bool) (ha0 : 0 ≤ a) (ha1 : a ≤ 255) (hb0 : 0 ≤ b) (hb1 : b ≤ 255) (hc0 : 0 ≤ c) (hc1 : c ≤ 255) : Calls Try.prog 3 #[.int .u8 a, .int .u8 b, .int .u8 c, .bool gen] w fun e w' => e = .returned (.bool true) ∧ Below w.heap.size w w' := by
  obtain ⟨i0, hi, hz0, hz1, hz2⟩ := info_parts infoVal
  have HI := hid hi
  clear hi
  obtain ⟨p, ep, hp⟩ : ∃ p : Nat, a.tmod 5 = p ∧ p ≤ 4 := ⟨(a % 5).toNat, by rw [Int.tmod_eq_emod_of_nonneg ha0]; omega, by omega⟩
  obtain ⟨s, es, hs⟩ : ∃ s : Nat, b.tmod 5 = s ∧ s ≤ 4 := ⟨(b % 5).toNat, by rw [Int.tmod_eq_emod_of_nonneg hb0]; omega, by omega⟩
  obtain ⟨q, eq, hq⟩ : ∃ q : Nat, c.tmod 7 = q ∧ q ≤ 6 := ⟨(c % 7).toNat, by rw [Int.tmod_eq_emod_of_nonneg hc0]; omega, by omega⟩
  go_enter Try.func3, Try.ntmps3
  have r2 := heap_alloc_new w (.cells #[.string ⟨#[]⟩, .int .i64 0, .int .i64 1, .bool false, .slice none 0 0, .string ⟨#[]⟩, .int .i64 (p : Nat), .int .i64 ((p : Nat) + (s : Nat)), .bool gen, .slice none 0 0] 28)
  have hb2 := (Below.refl w.heap.size w).alloc (Nat.le_refl _) (.cells #[.string ⟨#[]⟩, .int .i64 0, .int .i64 1, .bool false, .slice none 0 0, .string ⟨#[]⟩, .int .i64 (p : Nat), .int .i64 ((p : Nat) + (s : Nat)), .bool gen, .slice none 0 0] 28)
  go_wp2_with fail
  generalize (w.alloc (.cells #[.string ⟨#[]⟩, .int .i64 0, .int .i64 1, .bool false, .slice none 0 0, .string ⟨#[]⟩, .int .i64 (p : Nat), .int .i64 ((p : Nat) + (s : Nat)), .bool gen, .slice none 0 0] 28)) = W2 at r2 hb2 ⊢
  have hF : RowR (here w) W2 5 (.slice (some ⟨w.heap.size, 0, none⟩) 2 2) ([insFun 1 (.slice none 0 0), gE p ((p : Nat) + (s : Nat)) gen].map FunD.row) :=
    RowR.of_own (rows := [FunD.row (insFun 1 (.slice none 0 0)), FunD.row (gE p ((p : Nat) + (s : Nat)) gen)]) (own_of_block (n := 2) (sz := 5) r2 rfl (by decide)) (by decide) (fun k hk => hk.elim) (by simp [FunD.row]) rfl
  refine (snew_c (B := here w) hb2.size (fun k hk => hk.elim) hF (f := insFun 1 (.slice none 0 0)) rfl rfl ⟨_, _, _, rfl⟩ (by decide) (by decide)).mono ?_
  rintro e w3 ⟨at0, rfl, B', D, G, hS, rfl, hfu, hE, hf, hb3⟩
  have HF := hid ((hF.raise hE (Nat.le_refl _)).move (hf.raise hE))
  have HS := hid (show St1 B' w3 D G pN0 from hS)
  have HN := hid hE.hn
  have HU := hid hfu
  have HB := hid (hb2.trans (hb3.mono hb2.size))
  clear hS hE hf hb3 hb2 hF r2 hfu W2
  go_wp2_with (go_at_call 14; refine (err_c 0 _).mono ?_; rintro e w4 ⟨rfl, hw4⟩; subst w4)
  go_loopw [13, 14] (fun v i wx => ∃ k : Nat, k ≤ q ∧ i = .int .i64 k ∧ Box (Below w3.heap.size w3 wx) ∧ Box (ROut wx w3.heap.size 33 3 v ((argsL k).map VD.row))) (fun _ i _ => q - (RowKit.intOf i).toNat)
  case atStart => exact ⟨0, by omega, rfl, hid (Below.refl _ _), hid (ROut.nil _ _ _ _)⟩
  case round =>
    obtain ⟨k, hk, rfl, HBr, HO⟩ := hrel
    have s1 := HBr.out.size
    rcases Nat.lt_or_ge k q with hlt | hge
    · have hlt' : (k : Int) < (q : Int) := by omega
      go_wp2_with fail
      refine (rnumM_c ((k : Nat) + 1)).mono ?_
      rintro e w5 ⟨rfl, hb5⟩
      have HB5 := hid (HBr.out.trans (hb5.mono s1))
      have HO1 := hid (show (w5.alloc (.cells #[.int .i64 3, .int .i64 ((k : Nat) + 1), .string ByteArray.empty] 33)).ownsRow w3.heap.size 33 3 u13 k ((argsL k).map VD.row).flatten by have := (HO.out.below hb5).below ((Below.refl w5.heap.size w5).alloc (Nat.le_refl _) (.cells #[.int .i64 3, .int .i64 ((k : Nat) + 1), .string ByteArray.empty] 33)); unfold ROut at this; rwa [List.length_map, argsL_length] at this)
      have s2 := HB5.out.size
      clear hb5
      go_wp2_with (at_builtin; refine wpList_append_own _ rfl _ _ 31 rfl w3.heap.size 33 i0 (.agg #[.int .i64 0, .int .i64 0, .string ByteArray.empty]) 3 32 Try.underlying31 HI.out hz0 hz1 hz2 rfl (by decide) u13 k ((argsL k).map VD.row).flatten ?c1 ?c0 ⟨w5.heap.size, 0, none⟩ 1 1 (numV ((k : Nat) + 1)).row ?c2 rfl ?c3 ?c4 ?c5 ?c6 ?c7 ?_; (case c1 => rfl); (case c0 => exact HO1.out); (case c2 => rfl); (case c3 => exact World.news_of_block (heap_alloc_new w5 _)); (case c4 => simp [numV, VD.row, Value.oneCell']); (case c5 => unfold maxLen; omega); (case c6 => omega); (case c7 => simp; omega); intro v6 w6 hown hgrow hnil; have HB6 := hid ((HB5.out.trans (((Below.refl w5.heap.size w5).alloc (Nat.le_refl _) _).mono s2)).grown hgrow (by simp; omega) (fun x hx => (HO1.out.lt x hx).1)); have HO6 := hid (ROut.push (by rw [List.length_map, argsL_length]) hown); clear hown hgrow hnil)
      go_roundw
      case rel => exact ⟨k + 1, by omega, by go_num, HB6, hid (by rw [argsL_succ, List.map_append]; exact HO6.out)⟩
      case measure => simp [RowKit.intOf]; omega
    · obtain rfl : k = q := by omega
      obtain ⟨Aa, pa, rfl⟩ := HO.out.slice
      rw [List.length_map, argsL_length] at HO ⊢
      have HA := hid (HO.out.rowR (B := B') (by decide) HS.out.h.fam.fresh VD.row_len)
      have HS5 := hid (HS.out.below HBr.out)
      have HF5 := hid (HF.out.move (Fr.of_below HBr.out))
      have HB5 := hid (HB.out.trans (HBr.out.mono HB.out.size))
      clear HO HBr HS HF HB s1
      go_wp2_with fail
      refine (rstrL_c ⟨#[109, 101]⟩).mono ?_
      rintro e w6 ⟨rfl, hb6⟩
      have HA6 := hid (HA.out.move (Fr.of_below hb6))
      have HS6 := hid (HS5.out.below hb6)
      have HF6 := hid (HF5.out.move (Fr.of_below hb6))
      have HB6 := hid (HB5.out.trans (hb6.mono HB5.out.size))
      clear hb6 HA HS5 HF5 HB5
      go_wp2_with fail
      refine (enters_step hp hs HS6.out HU.out HF6.out HA6.out).mono ?_
      rintro e w7 ⟨rfl, B7, D7, G7, hS7, hM7⟩
      have HB7 := hid (HB6.out.trans (hM7.low HS6.out (Nat.le_of_eq HN.out.symm)))
      have HA7 := hid (hM7.row HA6.out)
      have HS7 := hid hS7
      have HAT := hid hM7.at_
      clear hS7 hM7 HA6 HS6 HF6 HB6 HU HN
      obtain ⟨L, hL⟩ : ∃ L, L = slotsD p (p + s) (argsL k) := ⟨_, rfl⟩
      rw [← hL] at HS7
      have HLL := hid hL
      clear hL
      go_wp2_with fail
      rw [← HAT.out]
      refine (all_c HS7.out (pe_ok gen L)).mono ?_
      rintro e w8 ⟨v, rfl, hb8, hv⟩
      obtain ⟨Ac, pc, A1, p1, A2, p2, A3, p3, rows, rfl, hr⟩ := hv.form
      clear hv
      obtain ⟨P, hP⟩ : ∃ P, P = pe gen L := ⟨_, rfl⟩
      have HP := hid hP
      rw [← hP] at hr ⊢
      clear hP
      have r9 := heap_alloc_new w8 (.cells #[.int .i64 P.status, .int .i64 0, .int .i64 0, .slice Ac P.cells.length pc, .slice A1 P.frames.length p1, .int .i64 0, .slice A2 P.jobs.length p2, .slice none 0 0, .int .i64 0, .slice none 0 0, .slice none 0 0, .slice A3 P.outs.length p3] 44)
      have hb9 := (Below.refl w8.heap.size w8).alloc (Nat.le_refl _) (.cells #[.int .i64 P.status, .int .i64 0, .int .i64 0, .slice Ac P.cells.length pc, .slice A1 P.frames.length p1, .int .i64 0, .slice A2 P.jobs.length p2, .slice none 0 0, .int .i64 0, .slice none 0 0, .slice none 0 0, .slice A3 P.outs.length p3] 44)
      have l9 : w8.heap.size < (w8.alloc (.cells #[.int .i64 P.status, .int .i64 0, .int .i64 0, .slice Ac P.cells.length pc, .slice A1 P.frames.length p1, .int .i64 0, .slice A2 P.jobs.length p2, .slice none 0 0, .int .i64 0, .slice none 0 0, .slice none 0 0, .slice A3 P.outs.length p3] 44)).heap.size := by go_size
      have HV := hid (hr.below hb9)
      have hb89 := hb8.trans (hb9.mono hb8.size)
      have HB9 := hid (HB7.out.trans (hb89.mono HB7.out.size))
      have HA9 := hid (HA7.out.move (Fr.of_below hb89))
      go_upto_region 13 with fail
      clear hb8 hr hb9 hb89 HS7 HB7 HA7
      generalize (w8.alloc (.cells #[.int .i64 P.status, .int .i64 0, .int .i64 0, .slice Ac P.cells.length pc, .slice A1 P.frames.length p1, .int .i64 0, .slice A2 P.jobs.length p2, .slice none 0 0, .int .i64 0, .slice none 0 0, .slice none 0 0, .slice A3 P.outs.length p3] 44)) = W9 at r9 HV HB9 HA9 l9 ⊢
      generalize w8.heap.size = b9 at r9 l9 ⊢
      have R9 := hid r9
      clear r9
      obtain ⟨bc, oc, eAc, hca⟩ := HV.out.cells.at_ 1 (scopeC 1 L) (by rw [HP.out]; cases gen <;> rfl)
      subst eAc
      obtain ⟨Ak, nk, pk, Av, nv, pv, k0, k1, k2, k3, k4, hrd⟩ := hca
      have hvr := hrd.v
      have hnv := hvr.get.1
      rw [List.length_map, show (scopeC 1 L).vals = L from rfl, HLL.out, slotsD_length] at hnv
      subst hnv
      simp only [Nat.one_mul, scopeC] at k0 k1 k2 k3 k4
      have z3 := (cell_of_row _ _ 3 _ _ _ R9.out).trans (b := some (Value.slice (some ⟨bc, oc, none⟩) P.cells.length pc)) rfl
      have h2c : 2 ≤ P.cells.length := by rw [HP.out]; cases gen <;> simp [pe]
      have hps : ((p + s : Nat) : Int) = (p : Int) + (s : Int) := Int.natCast_add p s
      have r10 := heap_alloc_new W9 (.cells #[.int .i64 4, .int .i64 1, .int .i64 0, .slice Ak nk pk, .slice Av (p + s) pv] 47)
      have hb10 := (Below.refl W9.heap.size W9).alloc (Nat.le_refl _) (.cells #[.int .i64 4, .int .i64 1, .int .i64 0, .slice Ak nk pk, .slice Av (p + s) pv] 47)
      have l10 : W9.heap.size < (W9.alloc (.cells #[.int .i64 4, .int .i64 1, .int .i64 0, .slice Ak nk pk, .slice Av (p + s) pv] 47)).heap.size := by go_size
      go_upto_region 16 with (go_at_call 14; refine (err_c 0 _).mono ?_; rintro e w4 ⟨rfl, hw4⟩; subst w4)
      have HV10 := hid (HV.out.below hb10)
      have HVR := hid (show RowR B7 (W9.alloc (.cells #[.int .i64 4, .int .i64 1, .int .i64 0, .slice Ak nk pk, .slice Av (p + s) pv] 47)) 3 (.slice Av (p + s) pv) (L.map VD.row) from hvr.move (Fr.of_below hb10))
      have HA10 := hid (HA9.out.move (Fr.of_below hb10))
      have HB10 := hid (HB9.out.trans (hb10.mono HB9.out.size))
      have R9' := hid ((hb10.block _ l9).trans R9.out)
      have l9' := hid (Nat.lt_of_lt_of_le l9 hb10.size)
      clear hb10 k0 k1 k2 k3 k4 hrd hvr z3 HV HA9 HB9 R9 l9
      generalize (W9.alloc (.cells #[.int .i64 4, .int .i64 1, .int .i64 0, .slice Ak nk pk, .slice Av (p + s) pv] 47)) = W10 at r10 l10 HV10 HVR HA10 HB10 R9' l9' ⊢
      generalize W9.heap.size = b10 at r10 l10 ⊢
      have c0 := (cell_of_row _ _ 0 _ _ _ r10).trans (b := some (Value.int .i64 4)) rfl
      have c1 := (cell_of_row _ _ 1 _ _ _ r10).trans (b := some (Value.int .i64 1)) rfl
      have c4 := (cell_of_row _ _ 4 _ _ _ r10).trans (b := some (Value.slice Av (p + s) pv)) rfl
      have R10 := hid r10
      have HPS := hid hps
      clear r10
      go_wp2_with fail
      clear c0 c1 c4 hps
      go_loopw [18] (fun i wx => ∃ j : Nat, j ≤ p + s ∧ i = .int .i64 j ∧ Box (Below W10.heap.size W10 wx)) (fun i _ => p + s - (RowKit.intOf i).toNat)
      case atStart => exact ⟨0, by omega, rfl, hid (Below.refl _ _)⟩
      case round =>
        obtain ⟨j, hj, rfl, HBr⟩ := hrel
        rcases Nat.lt_or_ge j (p + s) with hjk | hjk
        · have hjk' : (j : Int) < (p : Int) + (s : Int) := by omega
          have gj : (L.map VD.row)[j]? = some (slotD p (argsL k) j).row := by rw [HLL.out]; simp [slotsD, hjk]
          obtain ⟨bv, ov', ebv, _, hcv⟩ := (HVR.out.move (Fr.of_below HBr.out)).get.2.2 j _ gj
          subst ebv
          have lv : bv < wr.heap.size := block_lt_of_cell (hcv 0 _ rfl)
          have lc := Nat.lt_of_lt_of_le l10 HBr.out.size
          have c4 := carry HBr.out l10 ((cell_of_row _ _ 4 _ _ _ R10.out).trans (b := some (Value.slice (some ⟨bv, ov', none⟩) (p + s) pv)) rfl)
          have rb := heap_alloc_new wr (.cells #[.int .i64 7, .int .i64 0, .string ⟨#[]⟩] 33)
          have hb := (Below.refl wr.heap.size wr).alloc (Nat.le_refl _) (.cells #[.int .i64 7, .int .i64 0, .string ⟨#[]⟩] 33)
          have lb : wr.heap.size < (wr.alloc (.cells #[.int .i64 7, .int .i64 0, .string ⟨#[]⟩] 33)).heap.size := by go_size
          have hca' := HA10.out.move (Fr.of_below HBr.out)
          go_upto_region 22 with fail
          generalize (wr.alloc (.cells #[.int .i64 7, .int .i64 0, .string ⟨#[]⟩] 33)) = W at rb hb lb ⊢
          obtain ⟨b, hbe⟩ : ∃ b, b = wr.heap.size := ⟨_, rfl⟩
          have hbn : wr.heap.size ≤ b := Nat.le_of_eq hbe.symm
          rw [← hbe] at rb lb ⊢
          clear hbe
          have w0 := (cell_of_row _ _ 0 _ _ _ rb).trans (b := some (Value.int .i64 7)) rfl
          have w1 := (cell_of_row _ _ 1 _ _ _ rb).trans (b := some (Value.int .i64 0)) rfl
          have w2 := (cell_of_row _ _ 2 _ _ _ rb).trans (b := some (Value.string ⟨#[]⟩)) rfl
          have f0 : W.frozen? ⟨b, 0, none⟩ = false := by simp [World.frozen?, rb]
          have f1 : W.frozen? ⟨b, 1, none⟩ = false := by simp [World.frozen?, rb]
          have f2 : W.frozen? ⟨b, 2, none⟩ = false := by simp [World.frozen?, rb]
          rcases Nat.lt_or_ge j p with hjp | hjp
          · have hjp' : (j : Int) < (p : Int) := by omega
            rcases Nat.lt_or_ge j k with hjq | hjq
            · have hjq' : (j : Int) < (k : Int) := by omega
              have ga : ((argsL k).map VD.row)[j]? = some (numV ((j : Nat) + 1)).row := by simp [argsL, hjq]
              obtain ⟨ba, oa, eba, _, hcx⟩ := hca'.get.2.2 j _ ga
              subst eba
              have la : ba < wr.heap.size := block_lt_of_cell (hcx 0 _ rfl)
              have a0 := carry hb la (hcx 0 _ rfl)
              have a1 := carry hb la (hcx 1 _ rfl)
              have a2 := carry hb la (hcx 2 _ rfl)
              have g0 : ba ≠ b := by omega
              simp only [Nat.add_zero] at a0
              simp only [numV] at a0 a1 a2
              have hsl : slotD p (argsL k) j = numV ((j : Nat) + 1) := by simp [slotD, argsL, hjq]; omega
              clear hcx ga
              go_upto_region 26 with fail
              clear w0 w1 w2 f0 f1 f2 a0 a1 a2
              have hbW : Below wr.heap.size wr ((((((W.setCell ⟨b, 0, none⟩ (.int .i64 0)).setCell ⟨b, 1, none⟩ (.int .i64 0)).setCell ⟨b, 2, none⟩ (.string ⟨#[]⟩)).setCell ⟨b, 0, none⟩ (.int .i64 3)).setCell ⟨b, 1, none⟩ (.int .i64 ((j : Nat) + 1))).setCell ⟨b, 2, none⟩ (.string ByteArray.empty)) := (((((hb.setCell hbn _).setCell hbn _).setCell hbn _).setCell hbn _).setCell hbn _).setCell hbn _
              have rW : ((((((W.setCell ⟨b, 0, none⟩ (.int .i64 0)).setCell ⟨b, 1, none⟩ (.int .i64 0)).setCell ⟨b, 2, none⟩ (.string ⟨#[]⟩)).setCell ⟨b, 0, none⟩ (.int .i64 3)).setCell ⟨b, 1, none⟩ (.int .i64 ((j : Nat) + 1))).setCell ⟨b, 2, none⟩ (.string ByteArray.empty)).heap[b]? = some (.cells #[.int .i64 3, .int .i64 ((j : Nat) + 1), .string ByteArray.empty] 33 (0, 0)) := (set_at (set_at (set_at (set_at (set_at (set_at rb _) _) _) _) _) _).trans rfl
              have hx := hcv
              rw [hsl] at hx
              have x0 := ov_cell (Nat.lt_of_lt_of_le lv hbW.size) (carry hbW lv (hx 0 _ rfl))
              have x1 := ov_cell (Nat.lt_of_lt_of_le lv hbW.size) (carry hbW lv (hx 1 _ rfl))
              have x2 := ov_cell (Nat.lt_of_lt_of_le lv hbW.size) (carry hbW lv (hx 2 _ rfl))
              have y4 := ov_cell (Nat.lt_of_lt_of_le lc hbW.size) (carry hbW lc c4)
              have t0 := ov_row rW 0 rfl
              have t1 := ov_row rW 1 rfl
              have t2 := ov_row rW 2 (v := .string ByteArray.empty) rfl
              simp only [Nat.add_zero, numV] at x0 x1 x2
              have HBW := hid (HBr.out.trans (hbW.mono HBr.out.size))
              clear hx hbW rW rb hb hcv hca'
              refine wp_region_over_lit (by kernel_rfl) (by kernel_rfl) ?_
              repeat (first
                | go_big_quiet_step (fail))
              refine wpQuiet_nil ?_
              intro W' hW'
              obtain ⟨x, rfl⟩ := hW'
              have HBx := hid (HBW.out.trans ((ov_below x).mono HBW.out.size))
              clear x0 x1 x2 y4 t0 t1 t2 HBW
              go_wp2_with fail
              go_roundw
              case rel => exact ⟨j + 1, by omega, by go_num, HBx⟩
              case measure => simp [RowKit.intOf]; omega
            · have hjq' : ¬ (j : Int) < (k : Int) := by omega
              have hsl : slotD p (argsL k) j = undefV := by simp [slotD, argsL, Nat.not_lt.2 hjq]; omega
              go_upto_region 26 with fail
              clear w0 w1 w2 f0 f1 f2
              have hbW : Below wr.heap.size wr (((W.setCell ⟨b, 0, none⟩ (.int .i64 0)).setCell ⟨b, 1, none⟩ (.int .i64 0)).setCell ⟨b, 2, none⟩ (.string ⟨#[]⟩)) := ((hb.setCell hbn _).setCell hbn _).setCell hbn _
              have rW : (((W.setCell ⟨b, 0, none⟩ (.int .i64 0)).setCell ⟨b, 1, none⟩ (.int .i64 0)).setCell ⟨b, 2, none⟩ (.string ⟨#[]⟩)).heap[b]? = some (.cells #[.int .i64 0, .int .i64 0, .string ByteArray.empty] 33 (0, 0)) := (set_at (set_at (set_at rb _) _) _).trans rfl
              have hx := hcv
              rw [hsl] at hx
              have x0 := ov_cell (Nat.lt_of_lt_of_le lv hbW.size) (carry hbW lv (hx 0 _ rfl))
              have x1 := ov_cell (Nat.lt_of_lt_of_le lv hbW.size) (carry hbW lv (hx 1 _ rfl))
              have x2 := ov_cell (Nat.lt_of_lt_of_le lv hbW.size) (carry hbW lv (hx 2 _ rfl))
              have y4 := ov_cell (Nat.lt_of_lt_of_le lc hbW.size) (carry hbW lc c4)
              have t0 := ov_row rW 0 rfl
              have t1 := ov_row rW 1 rfl
              have t2 := ov_row rW 2 (v := .string ByteArray.empty) rfl
              simp only [Nat.add_zero, undefV] at x0 x1 x2
              have HBW := hid (HBr.out.trans (hbW.mono HBr.out.size))
              clear hx hbW rW rb hb hcv hca'
              refine wp_region_over_lit (by kernel_rfl) (by kernel_rfl) ?_
              repeat (first
                | go_big_quiet_step (fail))
              refine wpQuiet_nil ?_
              intro W' hW'
              obtain ⟨x, rfl⟩ := hW'
              have HBx := hid (HBW.out.trans ((ov_below x).mono HBW.out.size))
              clear x0 x1 x2 y4 t0 t1 t2 HBW
              go_wp2_with fail
              go_roundw
              case rel => exact ⟨j + 1, by omega, by go_num, HBx⟩
              case measure => simp [RowKit.intOf]; omega
          · have hjp' : ¬ (j : Int) < (p : Int) := by omega
            have hsl : slotD p (argsL k) j = holeV := by simp [slotD]; omega
            go_upto_region 26 with fail
            clear w0 w1 w2 f0 f1 f2
            have hbW : Below wr.heap.size wr W := hb
            have rW : W.heap[b]? = some (.cells #[.int .i64 7, .int .i64 0, .string ByteArray.empty] 33 (0, 0)) := rb
            have hx := hcv
            rw [hsl] at hx
            have x0 := ov_cell (Nat.lt_of_lt_of_le lv hbW.size) (carry hbW lv (hx 0 _ rfl))
            have x1 := ov_cell (Nat.lt_of_lt_of_le lv hbW.size) (carry hbW lv (hx 1 _ rfl))
            have x2 := ov_cell (Nat.lt_of_lt_of_le lv hbW.size) (carry hbW lv (hx 2 _ rfl))
            have y4 := ov_cell (Nat.lt_of_lt_of_le lc hbW.size) (carry hbW lc c4)
            have t0 := ov_row rW 0 rfl
            have t1 := ov_row rW 1 rfl
            have t2 := ov_row rW 2 (v := .string ByteArray.empty) rfl
            simp only [Nat.add_zero, holeV] at x0 x1 x2
            have HBW := hid (HBr.out.trans (hbW.mono HBr.out.size))
            clear hx hbW rW rb hb hcv hca'
            refine wp_region_over_lit (by kernel_rfl) (by kernel_rfl) ?_
            repeat (first
              | go_big_quiet_step (fail))
            refine wpQuiet_nil ?_
            intro W' hW'
            obtain ⟨x, rfl⟩ := hW'
            have HBx := hid (HBW.out.trans ((ov_below x).mono HBW.out.size))
            clear x0 x1 x2 y4 t0 t1 t2 HBW
            go_wp2_with fail
            go_roundw
            case rel => exact ⟨j + 1, by omega, by go_num, HBx⟩
            case measure => simp [RowKit.intOf]; omega
        · obtain rfl : j = p + s := by omega
          have r9w := (HBr.out.block _ l9'.out).trans R9'.out
          have hvw := HV10.out.below HBr.out
          have HBE := hid (HB10.out.trans (HBr.out.mono HB10.out.size))
          obtain rfl := HP.out
          clear HV10 HVR HA10 R9' l9' R10 l10 HB10 HP h2c HLL
          cases gen
          · obtain ⟨bf, of, Av', pv', At, nt, pt, rfl, hfc, _⟩ := hvw.frameAt (j := 1) (F := ⟨1, 0, 2, meV, [], [], 0⟩) rfl
            have y3 := ov_row r9w 3 (v := .slice (some ⟨bc, oc, none⟩) 2 pc) rfl
            have y4 := ov_row r9w 4 (v := .slice (some ⟨bf, of, none⟩) 2 p1) rfl
            have g0 := hfc 0 _ rfl
            have lf := block_lt_of_cell g0
            have g0' := ov_cell lf g0
            have g2 := ov_cell lf (hfc 2 _ rfl)
            have g3 := ov_cell lf (hfc 3 _ rfl)
            have g4 := ov_cell lf (hfc 4 _ rfl)
            have g5 := ov_cell lf (hfc 5 _ rfl)
            simp only [meV, Nat.reduceMul, Nat.reduceAdd, Nat.add_zero] at g0' g2 g3 g4 g5
            clear r9w hvw hfc g0 lf HBr
            go_upto_region 30 with fail
            refine wp_region_over_lit (by kernel_rfl) (by kernel_rfl) ?_
            repeat (first
              | go_big_quiet_step ((first | (go_at_call 19; exact calls_over (rrefM_c 3)) | (go_at_call 17; exact calls_over (rstrL_c ⟨#[109, 101]⟩)) | (go_at_call 20; exact calls_over (awake16_c _)))))
            refine wpQuiet_nil ?_
            intro W' hW'
            obtain ⟨x, rfl⟩ := hW'
            go_wp2
            go_ret
            exact ⟨rfl, HBE.out.trans ((ov_below x).mono HBE.out.size)⟩
          · obtain ⟨bf, of, Av', pv', At, nt, pt, rfl, hfc, hfv⟩ := hvw.frameAt (j := 0) (F := ⟨0, 0, 1, undefV, [refV 3], [], 0⟩) rfl
            obtain ⟨bx, ox, rfl, _, hxc⟩ := hfv.get.2.2 0 (refV 3).row rfl
            obtain ⟨bd, od, ed, hcd⟩ := hvw.cells.at_ 2 (genC meV 1 2) rfl
            injection ed with ed
            injection ed with ed1 ed2
            subst ed1 ed2
            obtain ⟨_, _, _, _, _, _, d0, d1, _, _, _, _⟩ := hcd
            have y3 := ov_row r9w 3 (v := .slice (some ⟨bc, oc, none⟩) 3 pc) rfl
            have y4 := ov_row r9w 4 (v := .slice (some ⟨bf, of, none⟩) 1 p1) rfl
            have g6 := ov_cell (block_lt_of_cell (hfc 6 _ rfl)) (hfc 6 _ rfl)
            have q0 := ov_cell (block_lt_of_cell (hxc 0 _ rfl)) (hxc 0 _ rfl)
            have q1 := ov_cell (block_lt_of_cell (hxc 0 _ rfl)) (hxc 1 _ rfl)
            have q2 := ov_cell (block_lt_of_cell (hxc 0 _ rfl)) (hxc 2 _ rfl)
            have e0 := ov_cell (block_lt_of_cell d0) d0
            have e1 := ov_cell (block_lt_of_cell d0) d1
            simp only [genC, refV, Nat.reduceMul, Nat.add_zero, Nat.zero_add, Nat.zero_mul, List.length_cons, List.length_nil] at g6 q0 q1 q2 e0 e1
            clear r9w hvw hfc hfv hxc d0 d1 HBr
            go_upto_region 29 with fail
            refine wp_region_over_lit (by kernel_rfl) (by kernel_rfl) ?_
            repeat (first
              | go_big_quiet_step ((first | (go_at_call 19; exact calls_over (rrefM_c 3)) | (go_at_call 17; exact calls_over (rstrL_c ⟨#[109, 101]⟩)) | (go_at_call 20; exact calls_over (awake16_c _)))))
            refine wpQuiet_nil ?_
            intro W' hW'
            obtain ⟨x, rfl⟩ := hW'
            go_wp2
            go_ret
            exact ⟨rfl, HBE.out.trans ((ov_below x).mono HBE.out.size)⟩
end Go.Proofs.Ytdgpblhmfkpblaa.Pg
