/- What a proof further on needs (part h). -/
import Derived.Carry
import Derived.Deep.CutBlock
import Derived.Deep.RegionHeld3
import Derived.Laws.BitsLemmas
import Derived.Lib.SliceRun
import Derived.Maps.Keyed
import Derived.Maps.Own
import Derived.Maps.OwnOps
import Derived.Maps.OwnSet
import Derived.Maps.Views
import Derived.OrdersHeld
import Derived.RowKit
import Derived.StillTailTactics
import Derived.Test.YticbjhicjegfoaaKb
import Derived.Test.YticbjhicjegfoaaKc
import Derived.Test.YticbjhicjegfoaaKg
set_option linter.unusedVariables false
namespace Go.Proofs.Yticbjhicjegfoaa.Q
open Go.RowKit
open Go.Proofs.YticbjhicjegfoaaW.PrintWords
theorem depthN_lt (s : ByteArray) : ∀ (l : List (List ByteArray)) (n d : Nat), depthN s l n = some d → n ≤ d ∧ d < n + l.length
  | [], n, d, h => by simp [depthN] at h
  | x :: l, n, d, h => by
    rw [depthN_cons] at h
    split at h
    · injection h with h; simp; omega
    · have := depthN_lt s l _ _ h; simp; omega
section
variable {w : World} {a : Nat} {oko : Nat → Prop} {A : Option Addr} {cap : Nat} {o : List (List ByteArray)} {s : ByteArray}
set_option maxHeartbeats 1600000 in
set_option maxRecDepth 100000 in
theorem spot_c (h3 : w.cell? ⟨a, 3, none⟩ = some (.slice A o.length cap)) (h : Kd.N (Kd.slice 9 Kd.string) 35 w 0 oko (.slice A o.length cap) o) (hs : ∀ x ∈ o, x.length ≤ 1048576) (hl : o.length ≤ 1048576) (s : ByteArray) :
    Calls Try.prog 65 #[ptr a, .string s] w fun e w' => e = .returned (.agg #[.int .i64 (spotF o s).depth, .int .i64 (spotF o s).slot]) ∧ Below w.heap.size w w' := by
  have ha : a < w.heap.size := cell_lt h3
  have hb1 : Below w.heap.size w ((w.alloc (.cells #[.string s] 9)).alloc (.cells #[.int .i64 0, .int .i64 0] 40)) := ((Below.refl _ _).alloc (Nat.le_refl _) _).alloc (by simp) _
  have hrb : ((w.alloc (.cells #[.string s] 9)).alloc (.cells #[.int .i64 0, .int .i64 0] 40)).heap[w.heap.size]? = some (.cells #[.string s] 9 (0, 0)) := by
    rw [heap_alloc_old _ _ (by simp)]; exact heap_alloc_new _ _
  have hrc : ((w.alloc (.cells #[.string s] 9)).alloc (.cells #[.int .i64 0, .int .i64 0] 40)).heap[w.heap.size + 1]? = some (.cells #[.int .i64 0, .int .i64 0] 40 (0, 0)) := by
    have := heap_alloc_new (w.alloc (.cells #[.string s] 9)) (.cells #[.int .i64 0, .int .i64 0] 40)
    rwa [show (w.alloc (.cells #[.string s] 9)).heap.size = w.heap.size + 1 by simp] at this
  have h3' := (hb1.cell (p := ⟨a, 3, none⟩) ha).trans h3
  have hN := Kd.N_below h hb1
  have hsp : spotF o s = match depthN s o.reverse 0 with
    | none => ⟨-1, 0⟩
    | some d => ⟨(d : Int), idxV s (o.reverse.getD d [])⟩ := by
    unfold spotF; rw [spotR_depth]; rfl
  generalize spotF o s = R at hsp
  have HSP := hid hsp
  have HN := hid hN
  have HS := hid hs
  have HB := hid hb1
  have HRB := hid hrb
  have HRC := hid hrc
  clear h hs hb1 hrb hrc hsp hN
  unfold ptr
  go_enter Try.func65, Try.ntmps65
  go_wp2_with fail
  generalize ((w.alloc (.cells #[.string s] 9)).alloc (.cells #[.int .i64 0, .int .i64 0] 40)) = W at *
  refine (find_c h3' HN.out HS.out (cell_of_row _ _ 0 _ _ _ HRB.out) hl).mono ?_
  rintro e w1 ⟨rfl, m, rfl⟩
  have p3 : (W.drewN m).cell? ⟨a, 3, none⟩ = some (.slice A o.length cap) := h3'
  have pb : (W.drewN m).cell? ⟨w.heap.size, 0, none⟩ = some (.string s) := cell_of_row _ _ 0 _ _ _ HRB.out
  have pc0 : (W.drewN m).cell? ⟨w.heap.size + 1, 0, none⟩ = some (.int .i64 0) := cell_of_row _ _ 0 _ _ _ HRC.out
  have pc1 : (W.drewN m).cell? ⟨w.heap.size + 1, 1, none⟩ = some (.int .i64 0) := cell_of_row _ _ 1 _ _ _ HRC.out
  have pf0 : (W.drewN m).frozen? ⟨w.heap.size + 1, 0, none⟩ = false := by simp [World.frozen?, HRC.out]
  have pf1 : (W.drewN m).frozen? ⟨w.heap.size + 1, 1, none⟩ = false := by simp [World.frozen?, HRC.out]
  have hlw : w.heap.size + 1 < W.heap.size := (Array.getElem?_eq_some_iff.1 HRC.out).1
  have hbm : Below w.heap.size w (W.drewN m) := pw_below_drewN HB.out m
  have hNm := Kd.N_drewN HN.out m
  have hsp := HSP.out
  clear HSP HN HB
  have HN := hid hNm
  have HB := hid hbm
  clear hNm hbm h3' h3
  have hW1 : (W.drewN m).heap.size = W.heap.size := rfl
  rw [← hW1] at hlw
  clear hW1 HRB HRC
  generalize W.drewN m = W1 at *
  cases hd : depthN s o.reverse 0 with
  | none =>
    rw [hd] at hsp
    dsimp only at hsp
    subst hsp
    have hdv : depthV s o = -1 := by unfold depthV; rw [hd]
    rw [hdv]
    clear hdv hd
    go_wp2_with fail
    refine bodyPost_ret (v := .agg #[.int .i64 (-1), .int .i64 0]) ?_ rfl ⟨rfl, ?_⟩
    · simp [results, Try.results65, go_sem, pc0, pc1]
    · exact (HB.out.setCell (by simp) _).setCell (by simp) _
  | some d =>
    rw [hd] at hsp
    dsimp only at hsp
    have hdv : depthV s o = (d : Int) := by unfold depthV; rw [hd]
    have hdl := (depthN_lt s _ _ _ hd).2
    rw [List.length_reverse, Nat.zero_add] at hdl
    rw [hdv]
    obtain ⟨k, hk⟩ : ∃ k, k + 1 + d = o.length := ⟨o.length - 1 - d, by omega⟩
    have hkl : k < o.length := by omega
    obtain ⟨g, A1, c1, rfl, _, hc, hC⟩ := open_at HN.out (List.getElem?_eq_getElem hkl)
    have hx : o.reverse.getD d [] = o[k] := by
      rw [List.getD_eq_getElem?_getD, List.getElem?_reverse hdl, show o.length - 1 - d = k by omega, List.getElem?_eq_getElem hkl]; rfl
    have hxs := HS.out o[k] (List.getElem_mem hkl)
    rw [hx] at hsp
    clear hx
    generalize o[k] = x at hc hC hxs hsp
    subst hsp
    have e1 : IntKind.i64.wrap (((o.length : Nat) : Int) - 1) = (k : Int) + (d : Int) := by rw [wrapI ⟨by omega, by omega⟩]; omega
    have e2 : IntKind.i64.wrap (k : Int) = (k : Int) := wrapI ⟨by omega, by omega⟩
    have e3 : decide ((d : Int) < 0) = false := decide_eq_false (by omega)
    have hki : (k : Int) < (o.length : Int) := by omega
    have hki0 : (0 : Int) ≤ (k : Int) := by omega
    have HC := hid hC
    clear hdv hd hC
    go_upto_region 4 with fail
    go_still_tail 20, (by kernel_rfl)
    still_call (index_c (Kd.C_below HC.out (below_drew (Below.refl _ _))) hxs s)
    repeat still_step
    refine wpStill_nil ?_
    change wpList _ _ _ _ _ W1.drew
    go_wp2_with fail
    refine bodyPost_ret (v := .agg #[.int .i64 d, .int .i64 (idxV s x)]) ?_ rfl ⟨rfl, ?_⟩
    · simp [results, Try.results65, go_sem, pc0, pc1]
    · exact (HB.out.drew.setCell (by simp) _).setCell (by simp) _
end
open Go.Proofs.YticbjhicjegfoaaW.PrintWords
/-- A row of texts of the call's own, made since there were n0 blocks. -/
def OS (n0 : Nat) (w : World) (val : Value) (l : List ByteArray) : Prop := Kd.N Kd.string 9 w 0 (fun k => some k = val.ownBlock) val l ∧ ∀ k, val.ownBlock = some k → n0 ≤ k ∧ k < w.heap.size
section
variable {w w' w1 : World} {n0 n1 : Nat} {val val1 : Value} {l : List ByteArray} {A : Option Addr} {c : Nat} {okp : Nat → Prop} {s : ByteArray}
theorem OS.nil (n0 : Nat) (w : World) : OS n0 w (.slice none 0 0) [] := ⟨N_tightS (ok := fun _ => False) (Kd.R_N (Kd.R_nil _ _ _ _ _)), fun k hk => by simp [Value.ownBlock] at hk⟩
theorem OS.below (h : OS n0 w val l) (hb : Below w.heap.size w w') : OS n0 w' val l := ⟨Kd.N_below h.1 hb, fun k hk => ⟨(h.2 k hk).1, Nat.lt_of_lt_of_le (h.2 k hk).2 hb.size⟩⟩
theorem OS.slice (h : OS n0 w val l) : ∃ A c, val = .slice A l.length c := Kd.N_slice h.1
theorem OS.le (h : OS n0 w val l) (hn : n1 ≤ n0) : OS n1 w val l := ⟨h.1, fun k hk => ⟨Nat.le_trans hn (h.2 k hk).1, (h.2 k hk).2⟩⟩
theorem OS.of {okn : Nat → Prop} (hN : Kd.N Kd.string 9 w1 0 okn val1 l) (h : ∀ k, val1.ownBlock = some k → n0 ≤ k) : OS n0 w1 val1 l := ⟨N_tightS hN, fun k hk => ⟨h k hk, Kd.N_lt hN k hk⟩⟩
/-- What append makes of it. -/
theorem OS.grow {okn : Nat → Prop} {l' : List ByteArray} (h : OS n0 w val l) (h0 : n0 ≤ w.heap.size) (hN : Kd.N Kd.string 9 w1 0 okn val1 l') (hat : val1.ownBlock = val.ownBlock ∨ ∃ b, val1.ownBlock = some b ∧ w.heap.size ≤ b) : OS n0 w1 val1 l' :=
  OS.of hN fun k hk => by
    rcases hat with hat | ⟨b, hb, hle⟩
    · rw [hat] at hk; exact (h.2 k hk).1
    · rw [hb] at hk; injection hk with hk; omega
set_option maxHeartbeats 1600000 in
set_option maxRecDepth 100000 in
theorem clone_c (h : Kd.F Kd.string w okp A l.length l) (hl : l.length ≤ 1048576) : Calls Try.prog 96 #[.slice A l.length c] w fun e w' => ∃ val, e = .returned val ∧ OS w.heap.size w' val l ∧ Below w.heap.size w w' := by
  have hq := fun (w : World) (a : Option Addr) (n c n' c' : Nat) => Lib.run_eql_slice_nil (P := Try.prog) w 35 9 a n c n' c' Try.underlying35
  cases A with
  | none =>
    have hl0 : l = [] := by
      cases l with
      | nil => rfl
      | cons x l =>
        obtain ⟨ad, e, _⟩ := (Kd.F_now h).2.2 (by simp)
        cases e
    subst hl0
    have H := hid h
    clear h
    go_enter Try.func96, Try.ntmps96
    go_wp2_with fail
    go_ret
    exact ⟨_, rfl, OS.nil _ _, Below.refl _ _⟩
  | some ad =>
    have hf := Kd.F_alloc (Kd.F_bound h) (.cells #[] 9)
    have HF := hid hf
    have hmade : Kd.N Kd.string 9 (w.alloc (.cells #[] 9)) w.heap.size (fun _ => True) (.slice (some ⟨w.heap.size, 0, none⟩) 0 0) [] := by
      have ho := World.ownsRow_made (base := w.heap.size) (e := 9) (size := 1) w #[] 0 (Nat.le_refl _) (Nat.zero_le _) rfl
      have hR : Kd.R Kd.string 9 (w.alloc (.cells #[] 9)) w.heap.size (fun _ => True) (.slice (some ⟨w.heap.size, 0, none⟩) 0 0) [] := by
        refine ⟨fun j hj => trivial, [], ho, rfl, fun j p hp => by simp at hp⟩
      exact Kd.R_N hR
    have HM := hid hmade
    have HB := hid ((Below.refl w.heap.size w).alloc (Nat.le_refl _) (.cells #[] 9))
    clear h hf hmade
    go_enter Try.func96, Try.ntmps96
    go_wp2_with (at_builtin; refine Kd.N_append_rows Kd.string (w0 := w) w.heap.size rfl _ _ 35 9 (.string ⟨#[]⟩) 16 rfl Try.underlying35 infoStr rfl (by decide) (by decide) (.slice (some ⟨w.heap.size, 0, none⟩) 0 0) [] l (some ad) l.length c (fun _ => True) _ ?c1 ?c2 HM.out HF.out ?c3 (fun _ _ => trivial) HB.out (by simp) (by simp; omega) ?_; (case c1 => rfl); (case c2 => rfl); (case c3 => intro k hk; exact ⟨trivial, fun e => by simp [Value.ownBlock] at e; omega⟩); intro v1 w1 hN hB hg hat; have HN1 := hid hN; have HB1 := hid hB; have HAT := hid hat; clear hN hB hg hat)
    go_ret
    refine ⟨_, rfl, OS.of (Kd.N_lower (by simpa using HN1.out) (Nat.zero_le _)) (fun k hk => ?_), HB1.out⟩
    have hk : v1.ownBlock = some k := hk
    rcases HAT.out with h | ⟨b, h, hle⟩
    · rw [hk] at h
      simp [Value.ownBlock] at h
      omega
    · rw [hk] at h
      injection h with h
      simp at hle
      omega
theorem below_grown {w2 : World} {row : Option Nat} (hb : Below n0 w w1) (hn : n0 ≤ w.heap.size) (hg : w1.grownBy w2 row) (h0 : ∀ k, row = some k → n0 ≤ k) : Below n0 w w2 :=
  ⟨hg.os.trans hb.os, hg.tape.trans hb.tape, hg.output.trans hb.output, Nat.le_trans hb.size hg.size, fun k hk => (hg.block k (by have := hb.size; omega) (fun e => by have := h0 k e.symm; omega)).trans (hb.block k hk)⟩
set_option maxHeartbeats 3200000 in
set_option maxRecDepth 100000 in
theorem names_c {okl : Nat → Prop} {g cap a : Nat} {l : List Nd} {A4 : Option Addr} {c4 : Nat} {ks : List Nat} {ahead ns : List ByteArray} (h0 : w.cell? ⟨a, 0, none⟩ = some (.slice (some ⟨g, 0, none⟩) l.length cap)) (h : NR w okl g cap l)
    (ha : Kd.F Kd.string w okp A ahead.length ahead) (hal : ahead.length ≤ 1048576) (hk : Kd.C (Kd.int .i64) w A4 ks.length (ints ks)) (hkl : ks.length ≤ 9223372036854775807) (hn : namesF l ks ahead = some ns) :
    Calls Try.prog 67 #[ptr a, .slice A ahead.length c, .slice A4 ks.length c4] w fun e w' => ∃ val, e = .returned val ∧ OS w.heap.size w' val ns ∧ Below w.heap.size w w' := by
  have hak : a < w.heap.size := cell_lt h0
  have H := hid h
  have HA := hid ha
  have HK := hid hk
  have HN := hid hn
  have H0 := hid h0
  clear h ha hk hn h0
  unfold ptr
  go_enter Try.func67, Try.ntmps67
  go_wp2_with fail
  refine (clone_c HA.out hal).mono ?_
  rintro e w1 ⟨val, rfl, hO, hB⟩
  have HO := hid hO
  have HB := hid hB
  clear hO hB
  go_wp2_with fail
  go_loopw [7, 16] (fun x y wx => ∃ (j : Nat) (val : Value) (acc : List ByteArray), j ≤ ks.length ∧ y = .int .i64 j ∧ x = val ∧ Box (OS w.heap.size wx val acc) ∧ Box (namesF l (ks.drop j) acc = some ns) ∧ Box (Below w.heap.size w wx)) (fun _ y _ => ks.length - (RowKit.intOf y).toNat)
  case atStart => exact ⟨0, val, ahead, Nat.zero_le _, rfl, rfl, HO, HN, HB⟩
  case round =>
    clear HO HN HB
    obtain ⟨j, v, acc, hj, rfl, rfl, HO, HN, HB⟩ := hrel
    obtain ⟨Av, cv, ev⟩ := HO.out.slice
    rcases Nat.lt_or_ge j ks.length with hlt | hge
    · have hlt' : (j : Int) < (ks.length : Int) := by omega
      have hp : (0 : Int) ≤ (j : Int) := by omega
      obtain ⟨ad, rfl, hc⟩ := Kd.at_int (Kd.C_below HK.out HB.out) (j : Int) (by omega) (by omega)
      have hx : rd (ints ks) (j : Int) = (ks[j] : Int) := by unfold rd ints; simp [hlt]
      rw [hx, Int.toNat_natCast] at hc
      have hn := HN.out
      rw [List.drop_eq_getElem_cons hlt] at hn
      unfold namesF at hn
      obtain ⟨d, hd, hn⟩ := Option.bind_eq_some_iff.1 hn
      generalize ks[j] = k at hc hd
      have hdc := decl_c (w := wr) ((HB.out.cell (p := ⟨a, 0, none⟩) hak).trans H0.out) (Kd.N_below H.out HB.out) hd
      have HD := hid hdc
      have H2 := hid hn
      clear hx hn hd hdc HN
      subst ev
      go_wp2_with fail
      refine HD.out.mono ?_
      rintro e w2 ⟨rfl, hb2⟩
      have HB2 := hid hb2
      have HBB := hid (HB.out.trans (hb2.mono HB.out.size))
      have HO2 := hid (HO.out.below hb2)
      clear hb2
      cases d with
      | none =>
        unfold declV
        go_wp2_with fail
        go_roundw
        case rel => exact ⟨j + 1, _, acc, by omega, by go_num, rfl, HO2, H2, HBB⟩
        case measure => simp [RowKit.intOf]; omega
      | some s =>
        have h2 := H2.out
        dsimp only at h2
        split at h2
        · rename_i hal2
          have H3 := hid h2
          have hal3 : acc.length < 1048576 := hal2
          unfold declV
          clear h2
          go_wp2_with (at_builtin; refine Kd.N_append Kd.string (w0 := w2) 0 rfl _ _ 35 9 (.string ⟨#[]⟩) 16 rfl Try.underlying35 infoStr rfl (by decide) (by decide) (.slice Av acc.length cv) acc s [.string s] (fun _ => True) (fun _ => False) ?c1 ?c2 (fun _ _ => rfl) (fun _ hk => hk.elim) (fun _ _ => trivial) (Kd.N_mono HO2.out.1 (fun _ _ => trivial)) (Below.refl _ _) (Nat.zero_le _) (by omega) ?_; (case c1 => rfl); (case c2 => rfl); intro v1 w3 hN3 _ hg3 hat3; have HO3 := hid (HO2.out.grow (by have := HBB.out.size; omega) hN3 hat3); have HG3 := hid hg3; clear hN3 hg3 hat3)
          go_roundw
          case rel => exact ⟨j + 1, _, acc ++ [s], by omega, by go_num, rfl, HO3, H3, hid (below_grown HBB.out (Nat.le_refl _) HG3.out (fun k hk => (HO2.out.2 k hk).1))⟩
          case measure => simp [RowKit.intOf]; omega
        · cases h2
    · obtain rfl : j = ks.length := by omega
      have hn := HN.out
      rw [List.drop_length] at hn
      obtain rfl : acc = ns := Option.some.inj hn
      subst ev
      clear hn
      go_wp2_with fail
      go_ret
      exact ⟨_, rfl, HO.out, HB.out⟩
end
end Go.Proofs.Yticbjhicjegfoaa.Q
namespace Go.Proofs.YticbjhicjegfoaaW.PrintWords
open Go.RowKit
namespace Kd
section
variable {α β : Type} {d : Kd α} {e base base' n m c g N' lo hi : Nat} {ok ok' S : Nat → Prop} {w W w1 : World} {A : Option Addr} {ad : Addr} {u v v1 : Value} {xs : List α}
theorem FK_slice_mk {l : List α} (hl : l.length ≤ c) (hf : F d W ok A l.length l) : FK (Kd.slice e d) W ok l [.slice A l.length c] := fun W' hW => ⟨A, c, rfl, hl, hf W' hW⟩
end
end Kd
end Go.Proofs.YticbjhicjegfoaaW.PrintWords
namespace Go.Proofs.Yticbjhicjegfoaa.Q
open Go.RowKit
open Go.Proofs.YticbjhicjegfoaaW.PrintWords
def spCells (l : List Sp) : List Value := l.flatMap fun p => [.int .i64 p.depth, .int .i64 p.slot]
def slCells (l : List Int) : List Value := l.map fun x => .int .i64 x
theorem spCells_set : ∀ (l : List Sp) (k : Nat) (p : Sp), spCells (l.set k p) = ((spCells l).set (k * 2) (.int .i64 p.depth)).set (k * 2 + 1) (.int .i64 p.slot)
  | [], _, _ => rfl
  | q :: l, 0, p => rfl
  | q :: l, k + 1, p => by
    have h := spCells_set l k p
    unfold spCells at h ⊢
    rw [List.set_cons_succ, List.flatMap_cons, List.flatMap_cons, h, show (k + 1) * 2 = k * 2 + 1 + 1 by omega]
    rfl
theorem spCells_at : ∀ {l : List Sp} {k : Nat} {p : Sp}, l[k]? = some p → (spCells l)[k * 2]? = some (.int .i64 p.depth) ∧ (spCells l)[k * 2 + 1]? = some (.int .i64 p.slot)
  | [], k, p, h => by simp at h
  | q :: l, 0, p, h => by
    simp only [List.getElem?_cons_zero, Option.some.injEq] at h
    subst h
    exact ⟨rfl, rfl⟩
  | q :: l, k + 1, p, h => by
    have := spCells_at (l := l) (k := k) (p := p) (by simpa using h)
    rw [show (k + 1) * 2 = k * 2 + 1 + 1 by omega]
    exact this
/-- What a looker looks at, and where it lies. -/
structure LG where
  a : Nat
  g : Nat
  cap : Nat
  b1 : Nat
  b2 : Nat
  okl : Nat → Prop
  l : List Nd
def lkRow (G : LG) (opv : Value) : Array Value := #[.slice (some ⟨G.g, 0, none⟩) G.l.length G.cap, .slice (some ⟨G.b1, 0, none⟩) G.l.length G.l.length, .slice (some ⟨G.b2, 0, none⟩) G.l.length G.l.length, opv]
structure LI (G : LG) (w : World) (oko : Nat → Prop) (opv : Value) (S : Lk) : Prop where
  cell : w.heap[G.a]? = some (.cells (lkRow G opv) 71 (0, 0))
  nodes : NR w G.okl G.g G.cap G.l
  sp : w.heap[G.b1]? = some (.cells (spCells S.spots).toArray 40 (0, 0))
  sl : w.heap[G.b2]? = some (.cells (slCells S.slots).toArray 3 (0, 0))
  opn : Kd.N (Kd.slice 9 Kd.string) 35 w 0 oko opv S.open_
  lens : S.spots.length = G.l.length ∧ S.slots.length = G.l.length
  nopen : S.open_.length ≤ 1048576 ∧ ∀ x ∈ S.open_, x.length ≤ 1048576
  offl : ∀ k, G.okl k → k ≠ G.a ∧ k ≠ G.b1 ∧ k ≠ G.b2 ∧ ¬ oko k
  offo : ∀ k, oko k → k ≠ G.a ∧ k ≠ G.b1 ∧ k ≠ G.b2
  ne : G.a ≠ G.b1 ∧ G.a ≠ G.b2 ∧ G.b1 ≠ G.b2
  lo : ∀ k, oko k → k < w.heap.size
  lol : ∀ k, G.okl k → k < w.heap.size
def LK (G : LG) (oko : Nat → Prop) (k : Nat) : Prop := k = G.a ∨ k = G.b1 ∨ k = G.b2 ∨ oko k
/-- What a call of a looker's comes to. -/
def LN (G : LG) (w : World) (oko : Nat → Prop) (w' : World) (S' : Lk) : Prop := ∃ oko' opv', LI G w' oko' opv' S' ∧ Kp (LK G oko) w w' ∧ ∀ k, oko' k → oko k ∨ w.heap.size ≤ k
section
variable {G : LG} {w w' w'' : World} {oko oko' : Nat → Prop} {opv : Value} {S S' S2 : Lk} {val : Value} {ns : List ByteArray}
theorem LI.lt (h : LI G w oko opv S) : G.a < w.heap.size ∧ G.b1 < w.heap.size ∧ G.b2 < w.heap.size := ⟨(Array.getElem?_eq_some_iff.1 h.cell).1, (Array.getElem?_eq_some_iff.1 h.sp).1, (Array.getElem?_eq_some_iff.1 h.sl).1⟩
theorem LI.c (h : LI G w oko opv S) {i : Nat} {u : Value} (hu : (lkRow G opv)[i]? = some u) : w.cell? ⟨G.a, i, none⟩ = some u := (cell_of_row _ _ _ _ _ _ h.cell).trans hu
theorem LI.c0 (h : LI G w oko opv S) : w.cell? ⟨G.a, 0, none⟩ = some (.slice (some ⟨G.g, 0, none⟩) G.l.length G.cap) := h.c rfl
theorem LI.c1 (h : LI G w oko opv S) : w.cell? ⟨G.a, 1, none⟩ = some (.slice (some ⟨G.b1, 0, none⟩) G.l.length G.l.length) := h.c rfl
theorem LI.c2 (h : LI G w oko opv S) : w.cell? ⟨G.a, 2, none⟩ = some (.slice (some ⟨G.b2, 0, none⟩) G.l.length G.l.length) := h.c rfl
theorem LI.c3 (h : LI G w oko opv S) : w.cell? ⟨G.a, 3, none⟩ = some opv := h.c rfl
theorem LI.f (h : LI G w oko opv S) (i : Nat) : w.frozen? ⟨G.a, i, none⟩ = false := by simp [World.frozen?, h.cell]
theorem LI.f1 (h : LI G w oko opv S) (i : Nat) : w.frozen? ⟨G.b1, i, none⟩ = false := by simp [World.frozen?, h.sp]
theorem LI.f2 (h : LI G w oko opv S) (i : Nat) : w.frozen? ⟨G.b2, i, none⟩ = false := by simp [World.frozen?, h.sl]
theorem LI.below (h : LI G w oko opv S) (hb : Below w.heap.size w w') : LI G w' oko opv S :=
  ⟨(hb.block _ h.lt.1).trans h.cell, Kd.N_below h.nodes hb, (hb.block _ h.lt.2.1).trans h.sp, (hb.block _ h.lt.2.2).trans h.sl, Kd.N_below h.opn hb, h.lens, h.nopen, h.offl, h.offo, h.ne, fun k hk => Nat.lt_of_lt_of_le (h.lo k hk) hb.size, fun k hk => Nat.lt_of_lt_of_le (h.lol k hk) hb.size⟩
theorem LI.same (h : LI G w oko opv S) : LN G w oko w S := ⟨oko, opv, h, Kp.refl _ _, fun _ h => .inl h⟩
theorem LN.pre (hb : Below w.heap.size w w') (h : LN G w' oko w'' S') : LN G w oko w'' S' := by
  obtain ⟨o1, v1, h1, k1, s1⟩ := h
  exact ⟨o1, v1, h1, (Kp.of_below hb).trans k1 (fun _ h => .inl h), fun k hk => (s1 k hk).imp id (fun h => Nat.le_trans hb.size h)⟩
/-- What a looker has not in hand stays. -/
theorem Kp.offl (h : Kp (LK G oko) w w') (hI : LI G w oko opv S) : ∀ k, G.okl k → w'.heap[k]? = w.heap[k]? := fun k hk => h.block k (hI.lol k hk) (fun q => by
  obtain ⟨h1, h2, h3, h4⟩ := hI.offl k hk
  rcases q with q | q | q | q
  · exact h1 q
  · exact h2 q
  · exact h3 q
  · exact h4 q)
/-- A spot is set. -/
theorem LI.setSpot (h : LI G w oko opv S) {k : Nat} (p : Sp) : LI G ((w.setCell ⟨G.b1, k * 2, none⟩ (.int .i64 p.depth)).setCell ⟨G.b1, k * 2 + 1, none⟩ (.int .i64 p.slot)) oko opv (S.spot k p) := by
  have hk : Kp (fun j => j = G.b1) w ((w.setCell ⟨G.b1, k * 2, none⟩ (.int .i64 p.depth)).setCell ⟨G.b1, k * 2 + 1, none⟩ (.int .i64 p.slot)) := (Kp.set (K := fun j => j = G.b1) (p := ⟨G.b1, k * 2, none⟩) _ rfl).trans (Kp.set (K := fun j => j = G.b1) (p := ⟨G.b1, k * 2 + 1, none⟩) _ rfl) (fun _ h => .inl h)
  refine ⟨hk.heap h.cell h.ne.1, Kd.N_kept h.nodes hk.kept (fun j hj => (h.offl j hj).2.1), ?_, hk.heap h.sl h.ne.2.2.symm, Kd.N_kept h.opn hk.kept (fun j hj => (h.offo j hj).2.1), ⟨by simpa [Lk.spot] using h.lens.1, h.lens.2⟩, h.nopen, h.offl, h.offo, h.ne, fun j hj => Nat.lt_of_lt_of_le (h.lo j hj) hk.size, fun j hj => Nat.lt_of_lt_of_le (h.lol j hj) hk.size⟩
  refine blk_put (blk_put h.sp (k * 2) (.int .i64 p.depth) rfl) (k * 2 + 1) (.int .i64 p.slot) ?_
  unfold Lk.spot
  simp only [spCells_set, List.setIfInBounds_toArray]
/-- A number of names is set. -/
theorem LI.setSlot (h : LI G w oko opv S) {k : Nat} (x : Int) : LI G (w.setCell ⟨G.b2, k, none⟩ (.int .i64 x)) oko opv { S with slots := S.slots.set k x } := by
  have hk : Kp (fun j => j = G.b2) w (w.setCell ⟨G.b2, k, none⟩ (.int .i64 x)) := Kp.set (K := fun j => j = G.b2) (p := ⟨G.b2, k, none⟩) _ rfl
  refine ⟨hk.heap h.cell h.ne.2.1, Kd.N_kept h.nodes hk.kept (fun j hj => (h.offl j hj).2.2.1), hk.heap h.sp h.ne.2.2, ?_, Kd.N_kept h.opn hk.kept (fun j hj => (h.offo j hj).2.2), ⟨h.lens.1, by simpa using h.lens.2⟩, h.nopen, h.offl, h.offo, h.ne, fun j hj => Nat.lt_of_lt_of_le (h.lo j hj) hk.size, fun j hj => Nat.lt_of_lt_of_le (h.lol j hj) hk.size⟩
  refine blk_put h.sl k (.int .i64 x) ?_
  unfold slCells
  simp [List.map_set]
/-- The row of open scopes is another one. -/
theorem LI.setOpen (h : LI G w oko opv S) {opv' : Value} {o' : List (List ByteArray)} (hn : Kd.N (Kd.slice 9 Kd.string) 35 w 0 oko opv' o') (ho : o'.length ≤ 1048576 ∧ ∀ x ∈ o', x.length ≤ 1048576) : LI G (w.setCell ⟨G.a, 3, none⟩ opv') oko opv' { S with open_ := o' } := by
  have hk : Kp (fun j => j = G.a) w (w.setCell ⟨G.a, 3, none⟩ opv') := Kp.set (K := fun j => j = G.a) (p := ⟨G.a, 3, none⟩) _ rfl
  exact ⟨blk_put h.cell 3 opv' rfl, Kd.N_kept h.nodes hk.kept (fun j hj => (h.offl j hj).1), hk.heap h.sp h.ne.1.symm, hk.heap h.sl h.ne.2.1.symm, Kd.N_kept hn hk.kept (fun j hj => (h.offo j hj).1), h.lens, ho, h.offl, h.offo, h.ne, fun j hj => Nat.lt_of_lt_of_le (h.lo j hj) hk.size, fun j hj => Nat.lt_of_lt_of_le (h.lol j hj) hk.size⟩
theorem infoKeys : (Try.prog.info? 35).map (fun i => (i.zero, i.size, i.bytes)) = some (some (.slice none 0 0), 1, 24) := by kernel_rfl
set_option maxHeartbeats 1600000 in
set_option maxRecDepth 100000 in
theorem pop_c (h : LI G w oko opv S) (hn : S.open_ ≠ []) : Calls Try.prog 95 #[.pointer (some ⟨G.a, 3, none⟩)] w fun e w' => e = .returned (.tuple #[]) ∧ LN G w oko w' { S with open_ := S.open_.dropLast } := by
  obtain ⟨A, c, rfl⟩ := Kd.N_slice h.opn
  obtain ⟨m, hm⟩ : ∃ m, S.open_.length = m + 1 := by
    cases ho : S.open_ with
    | nil => exact absurd ho hn
    | cons x l => exact ⟨l.length, rfl⟩
  have hmc := (Kd.N_reads' h.opn).2.1
  have c3 := h.c3
  have f3 := h.f 3
  have hlt := h.lt.1
  have hcap := h.nopen.1
  rw [hm] at c3 hmc hcap
  have e1 : IntKind.i64.wrap (((m + 1 : Nat) : Int) - 1) = (m : Int) := by rw [wrapI ⟨by omega, by omega⟩]; omega
  have e2 : IntKind.i64.wrap (m : Int) = (m : Int) := wrapI ⟨by omega, by omega⟩
  have e3 : (0 : Int) ≤ (m : Int) := by omega
  have e4 : (m : Int) ≤ (c : Int) := by omega
  have H := hid h
  have HM := hid hm
  clear h hn hm
  go_enter Try.func95, Try.ntmps95
  go_wp2_with fail
  go_still_tail 12, (by kernel_rfl)
  change wpList _ _ _ _ _ w.drew
  go_wp2_with fail
  have hS := H.out.below (Below.refl w.heap.size w).drew
  have hml : m ≤ S.open_.length := by rw [HM.out]; omega
  have hN := Kd.N_take (m := m) hS.opn hml
  have hS2 := hS.setOpen hN ⟨by simp; have := H.out.nopen.1; omega, fun x hx => H.out.nopen.2 x (List.mem_of_mem_take hx)⟩
  have e : S.open_.take m = S.open_.dropLast := by rw [List.dropLast_eq_take, HM.out]; rfl
  rw [e] at hS2
  exact bodyPost_end (results_none rfl _ _ _) rfl ⟨rfl, oko, _, hS2, (Kp.of_below (Below.refl w.heap.size w).drew).trans (Kp.set (K := LK G oko) (p := ⟨G.a, 3, none⟩) _ (.inl rfl)) (fun _ h => .inl h), fun _ h => .inl h⟩
set_option maxHeartbeats 1600000 in
set_option maxRecDepth 100000 in
theorem push_c (h : LI G w oko opv S) (hO : Kd.N Kd.string 9 w 0 (fun k => some k = val.ownBlock) val ns) (hf : ∀ k, val.ownBlock = some k → ¬ oko k ∧ k ≠ G.a ∧ k ≠ G.b1 ∧ k ≠ G.b2 ∧ ¬ G.okl k) (hn : S.open_.length < 1048576) (hns : ns.length ≤ 1048576) :
    Calls Try.prog 94 #[.pointer (some ⟨G.a, 3, none⟩), val] w fun e w' => e = .returned (.tuple #[]) ∧ ∃ oko' opv', LI G w' oko' opv' { S with open_ := S.open_ ++ [ns] } ∧ Kp (LK G oko) w w' ∧ ∀ k, oko' k → oko k ∨ val.ownBlock = some k ∨ w.heap.size ≤ k := by
  obtain ⟨A, c, rfl⟩ := Kd.N_slice h.opn
  obtain ⟨A1, c1, rfl⟩ := Kd.N_slice hO
  have hc1 := (Kd.N_reads' hO).2.1
  have hal : Below w.heap.size w (w.alloc (.cells #[.slice A1 ns.length c1] 35)) := (Below.refl _ _).alloc (Nat.le_refl _) _
  have hFK : Kd.FK (Kd.slice 9 Kd.string) w (fun k => some k = (Value.slice A1 ns.length c1).ownBlock) ns [.slice A1 ns.length c1] := Kd.FK_slice_mk hc1 (Kd.N_F hO)
  have c3 := h.c3
  have f3 := h.f 3
  have hlt := h.lt.1
  have H := hid h
  have HFK := hid hFK
  have HF := hid hf
  have HAL := hid hal
  have HC3 := hid c3
  have hnl : Kd.N (Kd.slice 9 Kd.string) 35 w 0 (fun k => oko k ∨ some k = (Value.slice A1 ns.length c1).ownBlock ∨ w.heap.size ≤ k) (.slice A S.open_.length c) S.open_ := Kd.N_mono h.opn (fun k hk => .inl hk)
  have HNL := hid hnl
  clear h hO hf hal hFK hnl
  go_enter Try.func94, Try.ntmps94
  go_wp2_with (at_builtin; refine Kd.N_append (Kd.slice 9 Kd.string) (w0 := w) 0 rfl _ _ 67 35 (.slice none 0 0) 24 rfl Try.underlying67 infoKeys rfl (by decide) (by decide) (.slice A S.open_.length c) S.open_ ns [.slice A1 ns.length c1] (fun k => oko k ∨ some k = (Value.slice A1 ns.length c1).ownBlock ∨ w.heap.size ≤ k) _ ?c1 ?c2 HFK.out ?c3 ?c4 HNL.out (Below.refl _ _) (Nat.zero_le _) (by omega) ?_; (case c1 => rfl); (case c2 => rfl); (case c3 => exact fun k hk => ⟨.inr (.inl hk), fun e => (HF.out k hk.symm).1 (H.out.opn.1 k e.symm)⟩); (case c4 => exact fun k hk => .inr (.inr hk)); intro v1 w1 hN1 _ hg1 hat1; obtain ⟨A2, c2, ev⟩ := Kd.N_slice hN1; subst ev; have HN1 := hid hN1; have HG1 := hid hg1; have hp1 : w1.heap[G.a]? = w.heap[G.a]? := hg1.block _ hlt (fun e => (H.out.offo _ (H.out.opn.1 _ e.symm)).1 rfl); have m0 : w1.cell? ⟨G.a, 3, none⟩ = some (.slice A S.open_.length c) := (World.cell?_of_block (w := w) (a := ⟨G.a, 3, none⟩) hp1).trans c3; have m1 : w1.frozen? ⟨G.a, 3, none⟩ = false := (World.frozen?_of_block (w := w) (a := ⟨G.a, 3, none⟩) hp1).trans f3; clear hN1 hg1 hat1 hp1)
  have hkp : Kp (fun k => oko k) w w1 := Kp.grown HG1.out (fun k e => H.out.opn.1 k e)
  have hI := H.out
  have hin : ∀ k, ((oko k ∨ some k = (Value.slice A1 ns.length c1).ownBlock ∨ w.heap.size ≤ k) ∧ k < w1.heap.size) → k ≠ G.a ∧ k ≠ G.b1 ∧ k ≠ G.b2 := fun k hk => by
    rcases hk.1 with q | q | q
    · exact hI.offo k q
    · exact ⟨(HF.out k q.symm).2.1, (HF.out k q.symm).2.2.1, (HF.out k q.symm).2.2.2.1⟩
    · have := hI.lt; omega
  have hka : ¬ oko G.a := fun e => (hI.offo _ e).1 rfl
  have hset : Kp (fun k => k = G.a) w1 (w1.setCell ⟨G.a, 3, none⟩ (.slice A2 (S.open_ ++ [ns]).length c2)) := Kp.set (K := fun k => k = G.a) (p := ⟨G.a, 3, none⟩) _ rfl
  have hk2 : Kp (fun k => k = G.a ∨ oko k) w (w1.setCell ⟨G.a, 3, none⟩ (.slice A2 (S.open_ ++ [ns]).length c2)) := (hkp.mono (fun k h => .inr h)).trans hset (fun _ h => .inl (.inl h))
  have hS : LI G (w1.setCell ⟨G.a, 3, none⟩ (.slice A2 (S.open_ ++ [ns]).length c2)) (fun k => (oko k ∨ some k = (Value.slice A1 ns.length c1).ownBlock ∨ w.heap.size ≤ k) ∧ k < w1.heap.size) (.slice A2 (S.open_ ++ [ns]).length c2) { S with open_ := S.open_ ++ [ns] } := by
    refine ⟨blk_put (hkp.heap hI.cell hka) 3 _ rfl, Kd.N_kept hI.nodes hk2.kept (fun j hj q => ?_), hk2.heap hI.sp (fun q => q.elim hI.ne.1.symm (fun e => (hI.offo _ e).2.1 rfl)), hk2.heap hI.sl (fun q => q.elim hI.ne.2.1.symm (fun e => (hI.offo _ e).2.2 rfl)), Kd.N_kept (Kd.N_bound HN1.out) hset.kept (fun j hj => (hin j hj).1), hI.lens, ⟨by simp; omega, fun x hx => ?_⟩, fun k hk => ?_, hin, hI.ne, fun k hk => by simpa using hk.2, fun k hk => Nat.lt_of_lt_of_le (hI.lol k hk) hk2.size⟩
    · obtain ⟨h1, h2, h3, h4⟩ := hI.offl j hj
      exact q.elim h1 h4
    · rcases List.mem_append.1 hx with hx | hx
      · exact hI.nopen.2 x hx
      · rw [List.mem_singleton.1 hx]; exact hns
    · obtain ⟨h1, h2, h3, h4⟩ := hI.offl k hk
      refine ⟨h1, h2, h3, fun q => ?_⟩
      rcases q.1 with q | q | q
      · exact h4 q
      · exact (HF.out k q.symm).2.2.2.2 hk
      · have := hI.lol k hk; omega
  have e : ((S.open_ ++ [ns]).length) = S.open_.length + 1 := by simp
  rw [e] at hS hk2
  refine bodyPost_end (results_none rfl _ _ _) rfl ⟨rfl, _, _, hS, hk2.mono (fun k q => q.elim .inl (fun h => .inr (.inr (.inr h)))), fun k hk => ?_⟩
  rcases hk.1 with q | q | q
  · exact .inl q
  · exact .inr (.inl q.symm)
  · exact .inr (.inr q)
end
open Go.Proofs.YticbjhicjegfoaaW.PrintWords
/-- look, so many calls deep, does what lookF says. -/
def LookOk (G : LG) (m : Nat) : Prop := ∀ {k : Nat} {S S' : Lk}, lookF G.l m k S = some S' → ∀ {w : World} {oko : Nat → Prop} {opv : Value}, LI G w oko opv S →
  Calls Try.prog 51 #[ptr G.a, .int .i64 k] w fun e w' => e = .returned (.tuple #[]) ∧ LN G w oko w' S'
theorem namesF_max {l : List Nd} : ∀ {ks : List Nat} {acc ns : List ByteArray}, namesF l ks acc = some ns → acc.length ≤ 1048576 → ns.length ≤ 1048576
  | [], acc, ns, h, ha => by injection h with h; rw [← h]; exact ha
  | k :: ks, acc, ns, h, ha => by
    unfold namesF at h
    obtain ⟨d, _, h⟩ := Option.bind_eq_some_iff.1 h
    cases d with
    | none => exact namesF_max h ha
    | some s =>
      dsimp only at h
      split at h
      · rename_i hc
        have : acc.length < 1048576 := hc
        exact namesF_max h (by simp; omega)
      · cases h
theorem LN.of {G : LG} {w w' w'' : World} {oko o1 : Nat → Prop} {S' : Lk} (k1 : Kp (LK G oko) w w') (s1 : ∀ k, o1 k → oko k ∨ w.heap.size ≤ k) (g : LN G w' o1 w'' S') : LN G w oko w'' S' := by
  obtain ⟨o2, v2, h2, k2, s2⟩ := g
  refine ⟨o2, v2, h2, k1.trans k2 (fun k hk => ?_), fun k hk => (s2 k hk).elim (s1 k) (fun h => .inr (Nat.le_trans k1.size h))⟩
  rcases hk with h | h | h | h
  · exact .inl (.inl h)
  · exact .inl (.inr (.inl h))
  · exact .inl (.inr (.inr (.inl h)))
  · exact (s1 k h).imp (fun h => .inr (.inr (.inr h))) id
theorem allF_open {R : Nat → Lk → Option Lk} (hR : ∀ {k S S'}, R k S = some S' → S'.open_ = S.open_ ∧ S'.spots.length = S.spots.length ∧ S'.slots.length = S.slots.length) : ∀ {ks : List Nat} {S S' : Lk}, allF R ks S = some S' → S'.open_ = S.open_ ∧ S'.spots.length = S.spots.length ∧ S'.slots.length = S.slots.length
  | [], S, S', h => by injection h with h; rw [h]; exact ⟨rfl, rfl, rfl⟩
  | k :: ks, S, S', h => by
    unfold allF at h
    obtain ⟨T, h1, h2⟩ := Option.bind_eq_some_iff.1 h
    obtain ⟨a1, a2, a3⟩ := hR h1
    obtain ⟨b1, b2, b3⟩ := allF_open hR h2
    exact ⟨b1.trans a1, b2.trans a2, b3.trans a3⟩
theorem withinF_open {l : List Nd} {R : Nat → Lk → Option Lk} (hR : ∀ {k S S'}, R k S = some S' → S'.open_ = S.open_ ∧ S'.spots.length = S.spots.length ∧ S'.slots.length = S.slots.length) {k : Nat} {ahead : List ByteArray} {ks : List Nat} {S S' : Lk} (h : withinF l R k ahead ks S = some S') : S'.open_ = S.open_ ∧ S'.spots.length = S.spots.length ∧ S'.slots.length = S.slots.length := by
  unfold withinF at h
  obtain ⟨ns, h1, h2⟩ := Option.bind_eq_some_iff.1 h
  split at h2
  · obtain ⟨T, h3, h4⟩ := Option.map_eq_some_iff.1 h2
    obtain ⟨b1, b2, b3⟩ := allF_open hR h3
    subst h4
    refine ⟨?_, b2, b3.trans (by simp)⟩
    rw [b1]; simp
  · cases h2
theorem lookF_open {l : List Nd} : ∀ {m k : Nat} {S S' : Lk}, lookF l m k S = some S' → S'.open_ = S.open_ ∧ S'.spots.length = S.spots.length ∧ S'.slots.length = S.slots.length
  | 0, _, _, _, h => by rw [lookF] at h; cases h
  | m + 1, k, S, S', h => by
    have ih : ∀ {k S S'}, lookF l m k S = some S' → S'.open_ = S.open_ ∧ S'.spots.length = S.spots.length ∧ S'.slots.length = S.slots.length := fun h => lookF_open h
    unfold lookF at h
    obtain ⟨n, h1, h2⟩ := Option.bind_eq_some_iff.1 h
    obtain ⟨d, h3, h4⟩ := Option.bind_eq_some_iff.1 h2
    split at h4
    · obtain ⟨S1, e1, e2, e3, e4⟩ : ∃ S1 : Lk, declS S k d = S1 ∧ S1.open_ = S.open_ ∧ S1.spots.length = S.spots.length ∧ S1.slots.length = S.slots.length := by
        cases d with
        | none => exact ⟨S, rfl, rfl, rfl, rfl⟩
        | some s => exact ⟨S.spot k (spotF S.open_ s), rfl, rfl, by simp [Lk.spot], rfl⟩
      rw [e1] at h4
      have fin : (S'.open_ = S1.open_ ∧ S'.spots.length = S1.spots.length ∧ S'.slots.length = S1.slots.length) → S'.open_ = S.open_ ∧ S'.spots.length = S.spots.length ∧ S'.slots.length = S.slots.length := fun ⟨a, b, c⟩ => ⟨a.trans e2, b.trans e3, c.trans e4⟩
      unfold bodyF at h4
      apply fin
      split at h4
      · injection h4 with h4; rw [← h4]; exact ⟨rfl, by simp [Lk.spot], rfl⟩
      split at h4
      · exact withinF_open ih h4
      split at h4
      · exact withinF_open ih h4
      split at h4
      · obtain ⟨ns, _, h5⟩ := Option.bind_eq_some_iff.1 h4
        split at h5
        · exact withinF_open ih h5
        · exact allF_open ih h5
      split at h4
      · obtain ⟨k0, _, h5⟩ := Option.bind_eq_some_iff.1 h4
        obtain ⟨k1, _, h6⟩ := Option.bind_eq_some_iff.1 h5
        obtain ⟨S2, h7, h8⟩ := Option.bind_eq_some_iff.1 h6
        obtain ⟨n1, _, h9⟩ := Option.bind_eq_some_iff.1 h8
        obtain ⟨a1, a2, a3⟩ := ih h7
        obtain ⟨b1, b2, b3⟩ := withinF_open ih h9
        exact ⟨b1.trans a1, b2.trans a2, b3.trans a3⟩
      · exact allF_open ih h4
    · cases h4
section
variable {G : LG} {m : Nat} {w : World} {oko okk : Nat → Prop} {opv : Value} {S S' : Lk} {A A4 : Option Addr} {c c4 k : Nat} {ks : List Nat} {ahead : List ByteArray}
set_option maxHeartbeats 1600000 in
set_option maxRecDepth 100000 in
theorem all_w (ih : LookOk G m) (hr : allF (lookF G.l m) ks S = some S') (h : LI G w oko opv S) (hk : Kd.F (Kd.int .i64) w G.okl A4 ks.length (ints ks)) :
    Calls Try.prog 68 #[ptr G.a, .slice A4 ks.length c4] w fun e w' => e = .returned (.tuple #[]) ∧ LN G w oko w' S' := by
  have hmax : ks.length ≤ 9223372036854775807 := Kd.F_max hk
  have H := hid h
  have HK := hid hk
  have HR := hid hr
  have IH := hid @ih
  have HS := hid h.same
  clear h hk hr ih
  unfold ptr
  go_enter Try.func68, Try.ntmps68
  go_wp2_with fail
  go_loopw [8] (fun x wx => ∃ (j : Nat) (T : Lk), j ≤ ks.length ∧ x = .int .i64 j ∧ Box (LN G w oko wx T) ∧ Box (allF (lookF G.l m) (ks.drop j) T = some S')) (fun x _ => ks.length - (RowKit.intOf x).toNat)
  case atStart => exact ⟨0, S, Nat.zero_le _, rfl, HS, HR⟩
  case round =>
    clear HR HS
    obtain ⟨j, T, hj, rfl, HT, HR⟩ := hrel
    rcases Nat.lt_or_ge j ks.length with hlt | hge
    · have hlt' : (j : Int) < (ks.length : Int) := by omega
      have hp : (0 : Int) ≤ (j : Int) := by omega
      obtain ⟨o1, v1, h1, k1, s1⟩ := id HT.out
      have hk1 := Kd.F_step HK.out (W1 := wr) (fun j hj _ => k1.offl H.out j hj)
      obtain ⟨ad, rfl, hc⟩ := Kd.at_int (Kd.F_now hk1) (j : Int) (by omega) (by omega)
      have hx : rd (ints ks) (j : Int) = (ks[j] : Int) := by unfold rd ints; simp [hlt]
      rw [hx, Int.toNat_natCast] at hc
      have hr := HR.out
      rw [List.drop_eq_getElem_cons hlt] at hr
      unfold allF at hr
      obtain ⟨T2, ht, hr⟩ := Option.bind_eq_some_iff.1 hr
      generalize ks[j] = k at hc ht
      have HLT := hid ht
      have HR2 := hid hr
      have H1 := hid h1
      have K1 := hid k1
      have S1 := hid s1
      clear hx hr ht HR h1 k1 s1 hk1
      go_wp2_with fail
      refine (IH.out HLT.out H1.out).mono ?_
      rintro e w2 ⟨rfl, hL2⟩
      have HT2 : Box (LN G w oko w2 T2) := hid (LN.of K1.out S1.out hL2)
      clear hL2
      go_wp2_with fail
      go_roundw
      case rel => exact ⟨j + 1, T2, by omega, by go_num, HT2, HR2⟩
      case measure => simp [RowKit.intOf]; omega
    · obtain rfl : j = ks.length := by omega
      have hr := HR.out
      rw [List.drop_length] at hr
      obtain rfl : T = S' := Option.some.inj hr
      clear hr HR
      go_wp2_with fail
      exact bodyPost_end (results_none rfl _ _ _) rfl ⟨rfl, HT.out⟩
set_option maxHeartbeats 1600000 in
set_option maxRecDepth 100000 in
theorem within_w (ih : LookOk G m) (hr : withinF G.l (lookF G.l m) k ahead ks S = some S') (h : LI G w oko opv S) (ha : Kd.F Kd.string w okk A ahead.length ahead) (hk : Kd.F (Kd.int .i64) w G.okl A4 ks.length (ints ks)) :
    Calls Try.prog 66 #[ptr G.a, .int .i64 k, .slice A ahead.length c, .slice A4 ks.length c4] w fun e w' => e = .returned (.tuple #[]) ∧ LN G w oko w' S' := by
  unfold withinF at hr
  obtain ⟨ns, hns, hr⟩ := Option.bind_eq_some_iff.1 hr
  split at hr
  · rename_i hc
    obtain ⟨hks, hop, hal⟩ := hc
    obtain ⟨S3, hall, hr⟩ := Option.map_eq_some_iff.1 hr
    have hop3 := (allF_open (fun h => lookF_open h) hall).1
    dsimp only at hop3
    subst hr
    have hmax := Kd.F_max hk
    have hnc := names_c (c := c) (c4 := c4) h.c0 h.nodes ha (Nat.le_of_lt hal) (Kd.F_now hk) hmax hns
    have hnl : ns.length ≤ 1048576 := namesF_max hns (Nat.le_of_lt hal)
    have hnk : k < G.l.length := by rw [← h.lens.2]; exact hks
    have hnk' : (k : Int) < (G.l.length : Int) := by omega
    have HNC := hid hnc
    have H := hid h
    have HK := hid hk
    have HALL := hid hall
    have HOP3 := hid hop3
    have HNL := hid hnl
    have HOP := hid hop
    have HKS := hid hks
    have IH := hid @ih
    clear hnc h ha hk hall hop3 hns hnl hal hop hks ih
    unfold ptr at *
    go_enter Try.func66, Try.ntmps66
    go_wp2_with fail
    refine HNC.out.mono ?_
    rintro e w1 ⟨val, rfl, hO, hB⟩
    have h1 := H.out.below hB
    obtain ⟨Av, cv, ev⟩ := hO.slice
    subst ev
    have c2 := h1.c2
    have f2 := h1.f2 k
    have c2k := (cell_of_row _ _ k _ _ _ h1.sl).trans (c := some (Value.int .i64 (S.slots[k]'(HKS.out)))) (by simp [slCells, HKS.out])
    have hne : ¬ (G.b2 = G.a) := h1.ne.2.1.symm
    have H1 := hid h1
    have HO := hid hO
    have HB := hid hB
    clear h1 hO hB HNC
    go_wp2_with fail
    have h2 := H1.out.setSlot (k := k) (ns.length : Int)
    have hkp2 : Kp (LK G oko) w (w1.setCell ⟨G.b2, k, none⟩ (.int .i64 ns.length)) := (Kp.of_below HB.out).trans (Kp.set (K := LK G oko) (p := ⟨G.b2, k, none⟩) _ (.inr (.inr (.inl rfl)))) (fun _ h => .inl h)
    have hfar : ∀ k', (Value.slice Av ns.length cv).ownBlock = some k' → ¬ oko k' ∧ k' ≠ G.a ∧ k' ≠ G.b1 ∧ k' ≠ G.b2 ∧ ¬ G.okl k' := fun k' hk' => by
      have h3 := (HO.out.2 k' hk').1
      have h4 := H.out.lt
      exact ⟨fun q => by have := H.out.lo _ q; omega, by omega, by omega, by omega, fun q => by have := H.out.lol _ q; omega⟩
    have hO2 : Kd.N Kd.string 9 (w1.setCell ⟨G.b2, k, none⟩ (.int .i64 ns.length)) 0 (fun k' => some k' = (Value.slice Av ns.length cv).ownBlock) (.slice Av ns.length cv) ns := Kd.N_far (p := ⟨G.b2, k, none⟩) HO.out.1 (fun k' hk' => (hfar k' hk'.symm).2.2.2.1) _
    refine (push_c h2 hO2 hfar HOP.out HNL.out).mono ?_
    rintro e w3 ⟨rfl, o3, v3, h3, k3, s3⟩
    have hkp3 : Kp (LK G oko) w w3 := hkp2.trans k3 (fun _ h => .inl h)
    have hs3 : ∀ k, o3 k → oko k ∨ w.heap.size ≤ k := fun k' hk' => by
      rcases s3 k' hk' with q | q | q
      · exact .inl q
      · exact .inr (HO.out.2 k' q).1
      · have hz : (w1.setCell ⟨G.b2, k, none⟩ (.int .i64 ns.length)).heap.size = w1.heap.size := by simp
        have := HB.out.size
        rw [hz] at q
        exact .inr (by omega)
    have hk3 := Kd.F_step HK.out (W1 := w3) (fun j hj _ => hkp3.offl H.out j hj)
    have H3 := hid h3
    have HK3 := hid hk3
    have KP3 := hid hkp3
    have HS3 := hid hs3
    clear h2 hkp2 hfar hO2 h3 k3 s3 hkp3 hs3 hk3 c2 f2 c2k H1 HO HB
    go_wp2_with fail
    refine (all_w @IH.out HALL.out H3.out HK3.out).mono ?_
    rintro e w4 ⟨rfl, o4, v4, h4, k4, s4⟩
    have hL4 := LN.of KP3.out HS3.out (⟨o4, v4, h4, k4, s4⟩ : LN G w3 o3 w4 S3)
    have H4 := hid h4
    have HL4 := hid hL4
    have HKS4 := hid (And.intro k4 s4)
    clear h4 k4 s4 hL4
    go_wp2_with fail
    refine (pop_c H4.out (by rw [HOP3.out]; simp)).mono ?_
    rintro e w5 ⟨rfl, hL5⟩
    have hfin := LN.of KP3.out HS3.out (LN.of HKS4.out.1 HKS4.out.2 hL5)
    have HF := hid hfin
    clear hL5 hfin
    go_wp2_with fail
    exact bodyPost_end (results_none rfl _ _ _) rfl ⟨rfl, HF.out⟩
  · cases hr
end
end Go.Proofs.Yticbjhicjegfoaa.Q
namespace Go.Proofs.Yticbjhicjegfoaa.Q
open Go.RowKit
/-- A scope that is open, and which of its names a const made. -/
abbrev Opn := List ByteArray × List Bool
/-- What stands around a node. -/
structure Ar where
  loop : Bool
  fun_ : Bool
  gen : Bool
  scopes : List Opn
def twiceG : List ByteArray → List ByteArray → Bool
  | _, [] => false
  | had, x :: l => if had.any (fun y => beqB y x) then true else twiceG (x :: had) l
def twiceF (l : List ByteArray) : Bool := twiceG [] l
/-- May a name's value not be set? -/
def fixedF (spots : List Sp) (a : Ar) (k : Nat) : Option Bool :=
  (spots[k]?).bind fun s =>
    if s.depth < 0 then some true
    else if s.depth ≤ 1048576 ∧ a.scopes.length ≤ 1048576 then
      if s.depth < (a.scopes.length : Int) then (a.scopes[a.scopes.length - 1 - s.depth.toNat]?).bind fun o => if 0 ≤ s.slot then some ((o.2[s.slot.toNat]?).getD false) else none
      else some false
    else none
/-- Is a node alone wrong? -/
def ruleF (l : List Nd) (spots : List Sp) (n : Nd) (a : Ar) : Option Bool :=
  if n.kind = 10 then (if n.names.all (fun s => Nat.ble s.size 1048576) && Nat.ble n.names.length 1048576 then some (twiceF n.names) else none)
  else if n.kind = 19 then (n.kids[0]?).bind fun j => (l[j]?).bind fun m => if m.kind = 3 then fixedF spots a j else some false
  else if n.kind = 28 ∨ n.kind = 29 then some (!a.loop)
  else if n.kind = 20 then some (!a.gen)
  else if n.kind = 30 then some (!a.fun_)
  else some false
def addB (is : Bool) (at_ : Nat) (bad : List Nat) : Option (List Nat) := if is then (if bad.length < cap then some (bad ++ [at_]) else none) else some bad
/-- A scope's names; what is there already is wrong. -/
def scopeF (l : List Nd) : List Nat → Opn → List Nat → Option (Opn × List Nat)
  | [], o, bad => some (o, bad)
  | k :: ks, o, bad => (declF l k).bind fun d => match d with
    | none => scopeF l ks o bad
    | some s => (l[k]?).bind fun n => (addB (placeN s o.1 0).isSome n.at_ bad).bind fun bad2 => if o.1.length < cap then scopeF l ks (o.1 ++ [s], o.2 ++ [decide (n.kind = 22)]) bad2 else none
def allE (R : Nat → List Nat → Option (List Nat)) : List Nat → List Nat → Option (List Nat)
  | [], bad => some bad
  | k :: ks, bad => (R k bad).bind fun bad' => allE R ks bad'
def withinE (l : List Nd) (R : Ar → Nat → List Nat → Option (List Nat)) (a : Ar) (ahead : List ByteArray) (kids : List Nat) (bad : List Nat) : Option (List Nat) :=
  if a.scopes.length < cap ∧ ahead.length < cap then (scopeF l kids (ahead, ahead.map fun _ => false) bad).bind fun x => allE (R { a with scopes := a.scopes ++ [x.1] }) kids x.2 else none
def bodyE (l : List Nd) (slots : List Int) (R : Ar → Nat → List Nat → Option (List Nat)) (a : Ar) (k : Nat) (n : Nd) (bad : List Nat) : Option (List Nat) :=
  if n.kind = 33 then withinE l R a [] n.kids bad
  else if n.kind = 10 then withinE l R { a with loop := false, fun_ := true, gen := decide (n.num = 1) } n.names n.kids bad
  else if n.kind = 25 then (slots[k]?).bind fun x => if 0 ≤ x then withinE l R a [] n.kids bad else allE (R a) n.kids bad
  else if n.kind = 32 then (n.kids[0]?).bind fun k0 => (n.kids[1]?).bind fun k1 => (R a k0 bad).bind fun bad2 => (l[k1]?).bind fun n1 => withinE l R a [n.text] n1.kids bad2
  else if n.kind = 27 then (n.kids[0]?).bind fun k0 => (n.kids[1]?).bind fun k1 => (R a k0 bad).bind fun bad2 => R { a with loop := true } k1 bad2
  else allE (R a) n.kids bad
def lookE (l : List Nd) (spots : List Sp) (slots : List Int) : Nat → Ar → Nat → List Nat → Option (List Nat)
  | 0, _, _, _ => none
  | m + 1, a, k, bad => (l[k]?).bind fun n => (ruleF l spots n a).bind fun r => (addB r n.at_ bad).bind fun bad2 => bodyE l slots (lookE l spots slots m) a k n bad2
def minL : Nat → List Nat → Nat
  | x, [] => x
  | x, y :: l => minL (min x y) l
/-- Where a tree is wrong first; whether it is right. -/
def checkE (m : Nat) (l : List Nd) : Option (Nat × Bool) :=
  (looked m l).bind fun S => (lookE l S.spots S.slots m ⟨false, false, false, []⟩ (l.length - 1) []).bind fun bad => match bad with
    | [] => some (0, true)
    | x :: r => some (minL x r, false)
/-- A program that may be, checked: is it so? -/
def chkE (src : ByteArray) (f : Nat → Bool → Bool) : Bool := match parse src with
  | some T => match checkE 100 T.l with
    | some x => T.ok && (Nat.blt 0 T.l.length && (Nat.blt T.l.length 1048576 && f x.1 x.2))
    | none => false
  | none => false
theorem chkE_get {src : ByteArray} {f : Nat → Bool → Bool} (h : chkE src f = true) : ∃ T x, parse src = some T ∧ checkE 100 T.l = some x ∧ T.ok = true ∧ 0 < T.l.length ∧ T.l.length ≤ 1048576 ∧ f x.1 x.2 = true := by
  unfold chkE at h
  split at h
  · rename_i T hT
    split at h
    · rename_i x hx
      simp only [Bool.and_eq_true, Nat.blt_eq] at h
      exact ⟨T, x, hT, hx, h.1, h.2.1, by omega, h.2.2.2⟩
    · cases h
  · cases h
theorem awakeE0 : chkE (⟨#[114, 101, 116, 117, 114, 110, 59]⟩ : ByteArray) (fun a o => Nat.beq a 0 && !o) = true := by decide +kernel
theorem awakeE1 : chkE (⟨#[108, 101, 116, 32, 97, 32, 61, 32, 49]⟩ : ByteArray) (fun _ o => o) = true := by decide +kernel
end Go.Proofs.Yticbjhicjegfoaa.Q
namespace Go.Proofs.Yticbjhicjegfoaa.Q
open Go.RowKit Go.Maps
open Go.Proofs.YticbjhicjegfoaaW.PrintWords
section
variable {w w' : World} {okl : Nat → Prop} {g cap k : Nat} {l : List Nd} {n : Nd}
set_option maxHeartbeats 1600000 in
set_option maxRecDepth 100000 in
theorem declE_c {a : Nat} {d : Option ByteArray} (h0 : w.cell? ⟨a, 0, none⟩ = some (.slice (some ⟨g, 0, none⟩) l.length cap)) (h : NR w okl g cap l) (hd : declF l k = some d) :
    Calls Try.prog 97 #[ptr a, .int .i64 k] w fun e w' => e = .returned (declV d) ∧ Below w.heap.size w w' := by
  unfold declF at hd
  obtain ⟨n, hk, hd⟩ := Option.bind_eq_some_iff.1 hd
  obtain ⟨A3, c3, A4, c4, hlt, n0, n1, n2, n3, n4, n5, _, _, l4, f4⟩ := h.node hk
  have hlt' : (k : Int) < (l.length : Int) := by omega
  have hb1 : Below w.heap.size w (w.alloc (.cells #[.int .i64 n.kind, .int .i64 n.num, .string n.text, .slice A3 n.names.length c3, .slice A4 n.kids.length c4, .int .i64 n.at_] 38)) := (Below.refl _ _).alloc (Nat.le_refl _) _
  have HB := hid hb1
  clear hb1
  unfold ptr
  split at hd
  · rename_i hk2
    injection hd with hd
    subst hd
    rcases Decidable.em (n.kind = 21) with h21 | h21
    · have t1 : (n.kind == (21 : Int)) = true := by simp [h21]
      have H := hid h
      have F4 := hid f4
      clear h f4 hk h21 hk2
      unfold declV
      go_enter Try.func97, Try.ntmps97
      go_wp2_with fail
      go_ret2
      exact ⟨rfl, HB.out⟩
    · have t1 : (n.kind == (21 : Int)) = false := by simp [h21]
      have t2 : (n.kind == (22 : Int)) = true := by simp; omega
      have H := hid h
      have F4 := hid f4
      clear h f4 hk h21 hk2
      unfold declV
      go_enter Try.func97, Try.ntmps97
      go_wp2_with fail
      go_ret2
      exact ⟨rfl, HB.out⟩
  · rename_i hk2
    have t1 : (n.kind == (21 : Int)) = false := by simp; omega
    have t2 : (n.kind == (22 : Int)) = false := by simp; omega
    split at hd
    · rename_i h23
      have t3 : (n.kind == (23 : Int)) = true := by simp [h23]
      obtain ⟨j, hj, hd⟩ := Option.bind_eq_some_iff.1 hd
      obtain ⟨m, hm, hd⟩ := Option.map_eq_some_iff.1 hd
      obtain ⟨_, _, _, _, hlt2, m0, m1, m2, _⟩ := h.node hm
      subst hd
      have hjl := (List.getElem?_eq_some_iff.1 hj).1
      obtain ⟨ad, rfl, hj0⟩ := Kd.at_int (Kd.F_now f4) 0 (by omega) (by omega)
      have hx : rd (ints n.kids) 0 = (j : Int) := by
        unfold rd ints
        simp [List.getElem?_map, hj]
      rw [hx] at hj0
      have hj0' : w.cell? ad = some (.int .i64 j) := by simpa [Addr.add] using hj0
      have hp : (0 : Int) < (n.kids.length : Int) := by omega
      have hlt2' : (j : Int) < (l.length : Int) := by omega
      have hadk := cell_lt hj0'
      have hak : a < w.heap.size := cell_lt h0
      have hgk : g < w.heap.size := cell_lt m2
      have H := hid h
      have F4 := hid f4
      clear h f4 hk h23 hk2 hj hm hj0 hx
      unfold declV
      go_enter Try.func97, Try.ntmps97
      go_wp2_with fail
      go_quiet (fail)
      go_wp2_with fail
      go_ret2
      exact ⟨rfl, pw_below_drewN HB.out _⟩
    · rename_i h23
      injection hd with hd
      subst hd
      have t3 : (n.kind == (23 : Int)) = false := by simp; omega
      have H := hid h
      have F4 := hid f4
      clear h f4 hk h23 hk2
      unfold declV
      go_enter Try.func97, Try.ntmps97
      go_wp2_with fail
      go_ret2
      exact ⟨rfl, HB.out⟩
end
/-- Is a text among some? -/
def hasT (L : List ByteArray) (x : ByteArray) : Bool := L.any (fun y => beqB y x)
/-- A map that has these texts, each with 'true'. -/
def SetS (w : World) (mb : Nat) (L : List ByteArray) : Prop :=
  ∃ D : DataW Unit, w.ownsMap Try.prog 9 (plainElem Try.prog 4) mb L.length D ∧ ∀ x : ByteArray, D.atKey (.string x.toList) (.lit (.bool false)) = .lit (.bool (hasT L x))
section
variable {w w' : World} {mb : Nat} {L : List ByteArray} {x : ByteArray}
theorem strKeyed : Keyed Try.prog 9 := string_keyed Try.underlying9
theorem strKey (hs : x.size ≤ maxLen) : keyOf Try.prog 9 (.string x) = some (.string x.toList) := by
  simp [keyOf, mapKey, Try.underlying9, hs, ByteArray.toList_eq]
theorem boolZero (w : World) : (zeroValue 4).run Try.prog w = .ok (.bool false) w := by
  obtain ⟨i, hi, hz, -⟩ := info_parts (show (Try.prog.info? 4).map (fun i => (i.zero, i.size, i.bytes)) = some (some (.bool false), 1, 1) by kernel_rfl)
  simp [zeroValue, typeInfo, hi, hz]
theorem SetS.made (w : World) : SetS (w.alloc (.map #[] 0)) w.heap.size [] := ⟨.map [], World.ownsMap_made w _ _ _, fun x => by simp [DataW.atKey, hasT]⟩
set_option maxRecDepth 100000 in
theorem SetS.look (h : SetS w mb L) (x : ByteArray) (hs : x.size ≤ maxLen) : (Instr.lookup 127 (.map (some mb)) (.string x) false).run Try.prog w = .ok (.bool (hasT L x)) w := by
  obtain ⟨D, ho, hD⟩ := h
  obtain ⟨v, ps, hr, hv⟩ := ho.lookup strKeyed Try.underlying127 (boolZero w) (plainElem_bool Try.underlying4 false) (strKey (x := x) hs)
  rw [hD x] at hv
  have : v = .bool (hasT L x) := by
    unfold plainElem at hv
    rw [Try.underlying4] at hv
    cases v <;> simp at hv
    rw [hv.1]
  rw [hr, this]
theorem SetS.put (h : SetS w mb L) (x : ByteArray) (hs : x.size ≤ maxLen) (hl : L.length < maxLen) :
    ∃ w', (Instr.mapUpdate 127 (.map (some mb)) (.string x) (.bool true)).run Try.prog w = .ok () w' ∧ SetS w' mb (L ++ [x]) ∧ w.grownBy w' (some mb) := by
  obtain ⟨D, ho, hD⟩ := h
  obtain ⟨w', hr, h1, h2⟩ := ho.update strKeyed Try.underlying127 hl (strKey hs) (plainElem_bool Try.underlying4 true)
  refine ⟨w', hr, ⟨_, by rw [List.length_append]; exact h1, fun y => ?_⟩, h2⟩
  cases hy : beqB x y
  · have hne : (Lit.string y.toList) ≠ .string x.toList := fun e => by
      injection e with e
      have h3 := toList_beq x y
      rw [hy, e] at h3
      simp at h3
    rw [atKey_put_other hne, hD y]
    simp [hasT, hy]
  · obtain rfl := (beqB_iff _ _).1 hy
    rw [atKey_put_same ho.isMap (show WideAt.IsKeyLit (.string x.toList) from trivial)]
    simp [hasT, hy]
theorem twiceG_had (had had' l : List ByteArray) (h : ∀ x, hasT had x = hasT had' x) : twiceG had l = twiceG had' l := by
  induction l generalizing had had' with
  | nil => rfl
  | cons y l ih =>
    have h1 : had.any (fun z => beqB z y) = had'.any (fun z => beqB z y) := h y
    unfold twiceG
    rw [h1, ih (y :: had) (y :: had') (fun x => by simp only [hasT, List.any_cons] at h ⊢; rw [show had.any (fun z => beqB z x) = had'.any (fun z => beqB z x) from h x])]
theorem hasT_snoc (L : List ByteArray) (y x : ByteArray) : hasT (y :: L) x = hasT (L ++ [y]) x := by
  simp [hasT, Bool.or_comm]
set_option maxHeartbeats 1600000 in
set_option maxRecDepth 100000 in
theorem twice_c {A : Option Addr} {c : Nat} {l : List ByteArray} (h : Kd.C Kd.string w A l.length l) (hl : l.length ≤ 1048576) (hs : ∀ x ∈ l, x.size ≤ 1048576) : Calls Try.prog 73 #[.slice A l.length c] w fun e w' => e = .returned (.bool (twiceF l)) ∧ Below w.heap.size w w' := by
  have H := hid h
  have HS := hid hs
  have hm := SetS.made w
  have HM := hid hm
  have HB := hid ((Below.refl w.heap.size w).alloc (Nat.le_refl _) (.map #[] 0))
  clear h hs hm
  have hmk := fun w : World => run_makeMap (P := Try.prog) 127 w
  go_enter Try.func73, Try.ntmps73
  go_wp2_with fail
  go_loopw [9] (fun x wx => ∃ (j : Nat) (L : List ByteArray), j ≤ l.length ∧ x = .int .i64 j ∧ L.length = j ∧ Box (SetS wx w.heap.size L) ∧ Box (twiceG L (l.drop j) = twiceF l) ∧ Box (Below w.heap.size w wx)) (fun x _ => l.length - (RowKit.intOf x).toNat)
  case atStart => exact ⟨0, [], Nat.zero_le _, rfl, rfl, HM, hid rfl, HB⟩
  case round =>
    clear HM HB
    obtain ⟨j, L, hj, rfl, hL, HM, HT, HB⟩ := hrel
    rcases Nat.lt_or_ge j l.length with hlt | hge
    · obtain ⟨ad, rfl, hc⟩ := Kd.at_string (Kd.C_below H.out HB.out) (j : Int) (by omega) (by omega)
      have hx : rdOf ByteArray.empty l (j : Int) = l[j] := by unfold rdOf; simp [hlt]
      rw [hx, Int.toNat_natCast] at hc
      have ht := HT.out
      rw [List.drop_eq_getElem_cons hlt] at ht
      have hsx := HS.out l[j] (List.getElem_mem hlt)
      generalize l[j] = x at hc ht hsx
      have hsx' : x.size ≤ maxLen := by unfold maxLen; omega
      have hlt' : (j : Int) < (l.length : Int) := by omega
      have hp : (0 : Int) ≤ (j : Int) := by omega
      have hlook := HM.out.look x hsx'
      have e : L.any (fun z => beqB z x) = hasT L x := rfl
      unfold twiceG at ht
      rw [e] at ht
      cases hb : hasT L x
      · rw [hb, if_neg (by decide)] at ht
        rw [hb] at hlook
        have ht2 : twiceG (L ++ [x]) (l.drop (j + 1)) = twiceF l := (twiceG_had _ _ _ (fun y => (hasT_snoc L x y).symm)).trans ht
        obtain ⟨w2, hput, hm2, hg2⟩ := HM.out.put x hsx' (by unfold maxLen; omega)
        have HT2 := hid ht2
        have HM2 := hid hm2
        have HG2 := hid hg2
        clear ht ht2 hm2 hg2 HM HT e hx hb
        go_wp2_with fail
        go_roundw
        case rel => exact ⟨j + 1, L ++ [x], by omega, by go_num, by simp [hL], HM2, HT2, hid (below_grown HB.out (Nat.le_refl _) HG2.out (fun k hk => by injection hk with hk; omega))⟩
        case measure => simp [RowKit.intOf]; omega
      · rw [hb, if_pos rfl] at ht
        rw [hb] at hlook
        have HT2 := hid ht
        clear ht HM HT e hx hb
        go_wp2_with fail
        go_ret
        exact ⟨ret_bool HT2.out.symm, HB.out⟩
    · obtain rfl : j = l.length := by omega
      have ht := HT.out
      rw [List.drop_length] at ht
      have HT2 := hid (show false = twiceF l from ht)
      clear ht HT
      go_wp2_with fail
      go_ret
      exact ⟨ret_bool HT2.out.symm, HB.out⟩
end
end Go.Proofs.Yticbjhicjegfoaa.Q
