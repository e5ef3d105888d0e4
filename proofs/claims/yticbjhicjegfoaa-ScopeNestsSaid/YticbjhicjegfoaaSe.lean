/- Where a name's value is. -/
import Derived.Test.YticbjhicjegfoaaSb
import Derived.StillTailTactics
import Derived.Deep.CutBlock
import Derived.Lib.SliceRun
namespace Go.Proofs.Yticbjhicjegfoaa.Q
open Go.RowKit
open Go.Proofs.YticbjhicjegfoaaW.PrintWords

theorem depthN_lt (s : ByteArray) : ∀ (l : List (List ByteArray)) (n d : Nat), depthN s l n = some d → n ≤ d ∧ d < n + l.length
  | [], n, d, h => by simp [depthN] at h
  | x :: l, n, d, h => by
    rw [depthN_cons] at h
    split at h
    · injection h with h; simp; omega
    · have := depthN_lt s l _ _ h; simp; omega
section
variable {w : World} {a : Nat} {oko : Nat → Prop} {A : Option Addr} {cap : Nat} {o : List (List ByteArray)} {s : ByteArray}
set_option maxHeartbeats 1600000 in
set_option maxRecDepth 100000 in
theorem spot_c (h3 : w.cell? ⟨a, 3, none⟩ = some (.slice A o.length cap)) (h : Kd.N (Kd.slice 9 Kd.string) 35 w 0 oko (.slice A o.length cap) o) (hs : ∀ x ∈ o, x.length ≤ 1048576) (hl : o.length ≤ 1048576) (s : ByteArray) :
    Calls Try.prog 65 #[ptr a, .string s] w fun e w' => e = .returned (.agg #[.int .i64 (spotF o s).depth, .int .i64 (spotF o s).slot]) ∧ Below w.heap.size w w' := by
  have ha : a < w.heap.size := cell_lt h3
  have hb1 : Below w.heap.size w ((w.alloc (.cells #[.string s] 9)).alloc (.cells #[.int .i64 0, .int .i64 0] 40)) := ((Below.refl _ _).alloc (Nat.le_refl _) _).alloc (by simp) _
  have hrb : ((w.alloc (.cells #[.string s] 9)).alloc (.cells #[.int .i64 0, .int .i64 0] 40)).heap[w.heap.size]? = some (.cells #[.string s] 9 (0, 0)) := by
    rw [heap_alloc_old _ _ (by simp)]; exact heap_alloc_new _ _
  have hrc : ((w.alloc (.cells #[.string s] 9)).alloc (.cells #[.int .i64 0, .int .i64 0] 40)).heap[w.heap.size + 1]? = some (.cells #[.int .i64 0, .int .i64 0] 40 (0, 0)) := by
    have := heap_alloc_new (w.alloc (.cells #[.string s] 9)) (.cells #[.int .i64 0, .int .i64 0] 40)
    rwa [show (w.alloc (.cells #[.string s] 9)).heap.size = w.heap.size + 1 by simp] at this
  have h3' := (hb1.cell (p := ⟨a, 3, none⟩) ha).trans h3
  have hN := Kd.N_below h hb1
  have hsp : spotF o s = match depthN s o.reverse 0 with
    | none => ⟨-1, 0⟩
    | some d => ⟨(d : Int), idxV s (o.reverse.getD d [])⟩ := by
    unfold spotF; rw [spotR_depth]; rfl
  generalize spotF o s = R at hsp
  have HSP := hid hsp
  have HN := hid hN
  have HS := hid hs
  have HB := hid hb1
  have HRB := hid hrb
  have HRC := hid hrc
  clear h hs hb1 hrb hrc hsp hN
  unfold ptr
  go_enter Try.func65, Try.ntmps65
  go_wp2_with fail
  generalize ((w.alloc (.cells #[.string s] 9)).alloc (.cells #[.int .i64 0, .int .i64 0] 40)) = W at *
  refine (find_c h3' HN.out HS.out (cell_of_row _ _ 0 _ _ _ HRB.out) hl).mono ?_
  rintro e w1 ⟨rfl, m, rfl⟩
  have p3 : (W.drewN m).cell? ⟨a, 3, none⟩ = some (.slice A o.length cap) := h3'
  have pb : (W.drewN m).cell? ⟨w.heap.size, 0, none⟩ = some (.string s) := cell_of_row _ _ 0 _ _ _ HRB.out
  have pc0 : (W.drewN m).cell? ⟨w.heap.size + 1, 0, none⟩ = some (.int .i64 0) := cell_of_row _ _ 0 _ _ _ HRC.out
  have pc1 : (W.drewN m).cell? ⟨w.heap.size + 1, 1, none⟩ = some (.int .i64 0) := cell_of_row _ _ 1 _ _ _ HRC.out
  have pf0 : (W.drewN m).frozen? ⟨w.heap.size + 1, 0, none⟩ = false := by simp [World.frozen?, HRC.out]
  have pf1 : (W.drewN m).frozen? ⟨w.heap.size + 1, 1, none⟩ = false := by simp [World.frozen?, HRC.out]
  have hlw : w.heap.size + 1 < W.heap.size := (Array.getElem?_eq_some_iff.1 HRC.out).1
  have hbm : Below w.heap.size w (W.drewN m) := pw_below_drewN HB.out m
  have hNm := Kd.N_drewN HN.out m
  have hsp := HSP.out
  clear HSP HN HB
  have HN := hid hNm
  have HB := hid hbm
  clear hNm hbm h3' h3
  have hW1 : (W.drewN m).heap.size = W.heap.size := rfl
  rw [← hW1] at hlw
  clear hW1 HRB HRC
  generalize W.drewN m = W1 at *
  cases hd : depthN s o.reverse 0 with
  | none =>
    rw [hd] at hsp
    dsimp only at hsp
    subst hsp
    have hdv : depthV s o = -1 := by unfold depthV; rw [hd]
    rw [hdv]
    clear hdv hd
    go_wp2_with fail
    refine bodyPost_ret (v := .agg #[.int .i64 (-1), .int .i64 0]) ?_ rfl ⟨rfl, ?_⟩
    · simp [results, Try.results65, go_sem, pc0, pc1]
    · exact (HB.out.setCell (by simp) _).setCell (by simp) _
  | some d =>
    rw [hd] at hsp
    dsimp only at hsp
    have hdv : depthV s o = (d : Int) := by unfold depthV; rw [hd]
    have hdl := (depthN_lt s _ _ _ hd).2
    rw [List.length_reverse, Nat.zero_add] at hdl
    rw [hdv]
    obtain ⟨k, hk⟩ : ∃ k, k + 1 + d = o.length := ⟨o.length - 1 - d, by omega⟩
    have hkl : k < o.length := by omega
    obtain ⟨g, A1, c1, rfl, _, hc, hC⟩ := open_at HN.out (List.getElem?_eq_getElem hkl)
    have hx : o.reverse.getD d [] = o[k] := by
      rw [List.getD_eq_getElem?_getD, List.getElem?_reverse hdl, show o.length - 1 - d = k by omega, List.getElem?_eq_getElem hkl]; rfl
    have hxs := HS.out o[k] (List.getElem_mem hkl)
    rw [hx] at hsp
    clear hx
    generalize o[k] = x at hc hC hxs hsp
    subst hsp
    have e1 : IntKind.i64.wrap (((o.length : Nat) : Int) - 1) = (k : Int) + (d : Int) := by rw [wrapI ⟨by omega, by omega⟩]; omega
    have e2 : IntKind.i64.wrap (k : Int) = (k : Int) := wrapI ⟨by omega, by omega⟩
    have e3 : decide ((d : Int) < 0) = false := decide_eq_false (by omega)
    have hki : (k : Int) < (o.length : Int) := by omega
    have hki0 : (0 : Int) ≤ (k : Int) := by omega
    have HC := hid hC
    clear hdv hd hC
    go_upto_region 4 with fail
    go_still_tail 20, (by kernel_rfl)
    still_call (index_c (Kd.C_below HC.out (below_drew (Below.refl _ _))) hxs s)
    repeat still_step
    refine wpStill_nil ?_
    change wpList _ _ _ _ _ W1.drew
    go_wp2_with fail
    refine bodyPost_ret (v := .agg #[.int .i64 d, .int .i64 (idxV s x)]) ?_ rfl ⟨rfl, ?_⟩
    · simp [results, Try.results65, go_sem, pc0, pc1]
    · exact (HB.out.drew.setCell (by simp) _).setCell (by simp) _
end
open Go.Proofs.YticbjhicjegfoaaW.PrintWords

/-- A row of texts of the call's own, made since there were n0 blocks. -/
def OS (n0 : Nat) (w : World) (val : Value) (l : List ByteArray) : Prop := Kd.N Kd.string 9 w 0 (fun k => some k = val.ownBlock) val l ∧ ∀ k, val.ownBlock = some k → n0 ≤ k ∧ k < w.heap.size
section
variable {w w' w1 : World} {n0 n1 : Nat} {val val1 : Value} {l : List ByteArray} {A : Option Addr} {c : Nat} {okp : Nat → Prop} {s : ByteArray}
theorem OS.nil (n0 : Nat) (w : World) : OS n0 w (.slice none 0 0) [] := ⟨N_tightS (ok := fun _ => False) (Kd.R_N (Kd.R_nil _ _ _ _ _)), fun k hk => by simp [Value.ownBlock] at hk⟩
theorem OS.below (h : OS n0 w val l) (hb : Below w.heap.size w w') : OS n0 w' val l := ⟨Kd.N_below h.1 hb, fun k hk => ⟨(h.2 k hk).1, Nat.lt_of_lt_of_le (h.2 k hk).2 hb.size⟩⟩
theorem OS.slice (h : OS n0 w val l) : ∃ A c, val = .slice A l.length c := Kd.N_slice h.1
theorem OS.le (h : OS n0 w val l) (hn : n1 ≤ n0) : OS n1 w val l := ⟨h.1, fun k hk => ⟨Nat.le_trans hn (h.2 k hk).1, (h.2 k hk).2⟩⟩
theorem OS.of {okn : Nat → Prop} (hN : Kd.N Kd.string 9 w1 0 okn val1 l) (h : ∀ k, val1.ownBlock = some k → n0 ≤ k) : OS n0 w1 val1 l := ⟨N_tightS hN, fun k hk => ⟨h k hk, Kd.N_lt hN k hk⟩⟩
/-- What append makes of it. -/
theorem OS.grow {okn : Nat → Prop} {l' : List ByteArray} (h : OS n0 w val l) (h0 : n0 ≤ w.heap.size) (hN : Kd.N Kd.string 9 w1 0 okn val1 l') (hat : val1.ownBlock = val.ownBlock ∨ ∃ b, val1.ownBlock = some b ∧ w.heap.size ≤ b) : OS n0 w1 val1 l' :=
  OS.of hN fun k hk => by
    rcases hat with hat | ⟨b, hb, hle⟩
    · rw [hat] at hk; exact (h.2 k hk).1
    · rw [hb] at hk; injection hk with hk; omega
set_option maxHeartbeats 1600000 in
set_option maxRecDepth 100000 in
theorem clone_c (h : Kd.F Kd.string w okp A l.length l) (hl : l.length ≤ 1048576) : Calls Try.prog 96 #[.slice A l.length c] w fun e w' => ∃ val, e = .returned val ∧ OS w.heap.size w' val l ∧ Below w.heap.size w w' := by
  have hq := fun (w : World) (a : Option Addr) (n c n' c' : Nat) => Lib.run_eql_slice_nil (P := Try.prog) w 35 9 a n c n' c' Try.underlying35
  cases A with
  | none =>
    have hl0 : l = [] := by
      cases l with
      | nil => rfl
      | cons x l =>
        obtain ⟨ad, e, _⟩ := (Kd.F_now h).2.2 (by simp)
        cases e
    subst hl0
    have H := hid h
    clear h
    go_enter Try.func96, Try.ntmps96
    go_wp2_with fail
    go_ret
    exact ⟨_, rfl, OS.nil _ _, Below.refl _ _⟩
  | some ad =>
    have hf := Kd.F_alloc (Kd.F_bound h) (.cells #[] 9)
    have HF := hid hf
    have hmade : Kd.N Kd.string 9 (w.alloc (.cells #[] 9)) w.heap.size (fun _ => True) (.slice (some ⟨w.heap.size, 0, none⟩) 0 0) [] := by
      have ho := World.ownsRow_made (base := w.heap.size) (e := 9) (size := 1) w #[] 0 (Nat.le_refl _) (Nat.zero_le _) rfl
      have hR : Kd.R Kd.string 9 (w.alloc (.cells #[] 9)) w.heap.size (fun _ => True) (.slice (some ⟨w.heap.size, 0, none⟩) 0 0) [] := by
        refine ⟨fun j hj => trivial, [], ho, rfl, fun j p hp => by simp at hp⟩
      exact Kd.R_N hR
    have HM := hid hmade
    have HB := hid ((Below.refl w.heap.size w).alloc (Nat.le_refl _) (.cells #[] 9))
    clear h hf hmade
    go_enter Try.func96, Try.ntmps96
    go_wp2_with (at_builtin; refine Kd.N_append_rows Kd.string (w0 := w) w.heap.size rfl _ _ 35 9 (.string ⟨#[]⟩) 16 rfl Try.underlying35 infoStr rfl (by decide) (by decide) (.slice (some ⟨w.heap.size, 0, none⟩) 0 0) [] l (some ad) l.length c (fun _ => True) _ ?c1 ?c2 HM.out HF.out ?c3 (fun _ _ => trivial) HB.out (by simp) (by simp; omega) ?_; (case c1 => rfl); (case c2 => rfl); (case c3 => intro k hk; exact ⟨trivial, fun e => by simp [Value.ownBlock] at e; omega⟩); intro v1 w1 hN hB hg hat; have HN1 := hid hN; have HB1 := hid hB; have HAT := hid hat; clear hN hB hg hat)
    go_ret
    refine ⟨_, rfl, OS.of (Kd.N_lower (by simpa using HN1.out) (Nat.zero_le _)) (fun k hk => ?_), HB1.out⟩
    have hk : v1.ownBlock = some k := hk
    rcases HAT.out with h | ⟨b, h, hle⟩
    · rw [hk] at h
      simp [Value.ownBlock] at h
      omega
    · rw [hk] at h
      injection h with h
      simp at hle
      omega
theorem below_grown {w2 : World} {row : Option Nat} (hb : Below n0 w w1) (hn : n0 ≤ w.heap.size) (hg : w1.grownBy w2 row) (h0 : ∀ k, row = some k → n0 ≤ k) : Below n0 w w2 :=
  ⟨hg.os.trans hb.os, hg.tape.trans hb.tape, hg.output.trans hb.output, Nat.le_trans hb.size hg.size, fun k hk => (hg.block k (by have := hb.size; omega) (fun e => by have := h0 k e.symm; omega)).trans (hb.block k hk)⟩
theorem namesF_len {l : List Nd} : ∀ {ks : List Nat} {acc ns : List ByteArray}, namesF l ks acc = some ns → acc.length ≤ ns.length
  | [], acc, ns, h => by injection h with h; rw [h]; exact Nat.le_refl _
  | k :: ks, acc, ns, h => by
    unfold namesF at h
    obtain ⟨d, _, h⟩ := Option.bind_eq_some_iff.1 h
    cases d with
    | none => exact namesF_len h
    | some s =>
      dsimp only at h
      split at h
      · have := namesF_len h; simp at this; omega
      · cases h
set_option maxHeartbeats 3200000 in
set_option maxRecDepth 100000 in
theorem names_c {okl : Nat → Prop} {g cap a : Nat} {l : List Nd} {A4 : Option Addr} {c4 : Nat} {ks : List Nat} {ahead ns : List ByteArray} (h0 : w.cell? ⟨a, 0, none⟩ = some (.slice (some ⟨g, 0, none⟩) l.length cap)) (h : NR w okl g cap l)
    (ha : Kd.F Kd.string w okp A ahead.length ahead) (hal : ahead.length ≤ 1048576) (hk : Kd.C (Kd.int .i64) w A4 ks.length (ints ks)) (hkl : ks.length ≤ 9223372036854775807) (hn : namesF l ks ahead = some ns) :
    Calls Try.prog 67 #[ptr a, .slice A ahead.length c, .slice A4 ks.length c4] w fun e w' => ∃ val, e = .returned val ∧ OS w.heap.size w' val ns ∧ Below w.heap.size w w' := by
  have hak : a < w.heap.size := cell_lt h0
  have H := hid h
  have HA := hid ha
  have HK := hid hk
  have HN := hid hn
  have H0 := hid h0
  clear h ha hk hn h0
  unfold ptr
  go_enter Try.func67, Try.ntmps67
  go_wp2_with fail
  refine (clone_c HA.out hal).mono ?_
  rintro e w1 ⟨val, rfl, hO, hB⟩
  have HO := hid hO
  have HB := hid hB
  clear hO hB
  go_wp2_with fail
  go_loopw [7, 16] (fun x y wx => ∃ (j : Nat) (val : Value) (acc : List ByteArray), j ≤ ks.length ∧ y = .int .i64 j ∧ x = val ∧ Box (OS w.heap.size wx val acc) ∧ Box (namesF l (ks.drop j) acc = some ns) ∧ Box (Below w.heap.size w wx)) (fun _ y _ => ks.length - (RowKit.intOf y).toNat)
  case atStart => exact ⟨0, val, ahead, Nat.zero_le _, rfl, rfl, HO, HN, HB⟩
  case round =>
    clear HO HN HB
    obtain ⟨j, v, acc, hj, rfl, rfl, HO, HN, HB⟩ := hrel
    obtain ⟨Av, cv, ev⟩ := HO.out.slice
    rcases Nat.lt_or_ge j ks.length with hlt | hge
    · have hlt' : (j : Int) < (ks.length : Int) := by omega
      have hp : (0 : Int) ≤ (j : Int) := by omega
      obtain ⟨ad, rfl, hc⟩ := Kd.at_int (Kd.C_below HK.out HB.out) (j : Int) (by omega) (by omega)
      have hx : rd (ints ks) (j : Int) = (ks[j] : Int) := by unfold rd ints; simp [hlt]
      rw [hx, Int.toNat_natCast] at hc
      have hn := HN.out
      rw [List.drop_eq_getElem_cons hlt] at hn
      unfold namesF at hn
      obtain ⟨d, hd, hn⟩ := Option.bind_eq_some_iff.1 hn
      generalize ks[j] = k at hc hd
      have hdc := decl_c (w := wr) ((HB.out.cell (p := ⟨a, 0, none⟩) hak).trans H0.out) (Kd.N_below H.out HB.out) hd
      have HD := hid hdc
      have H2 := hid hn
      clear hx hn hd hdc HN
      subst ev
      go_wp2_with fail
      refine HD.out.mono ?_
      rintro e w2 ⟨rfl, hb2⟩
      have HB2 := hid hb2
      have HBB := hid (HB.out.trans (hb2.mono HB.out.size))
      have HO2 := hid (HO.out.below hb2)
      clear hb2
      cases d with
      | none =>
        unfold declV
        go_wp2_with fail
        go_roundw
        case rel => exact ⟨j + 1, _, acc, by omega, by go_num, rfl, HO2, H2, HBB⟩
        case measure => simp [RowKit.intOf]; omega
      | some s =>
        have h2 := H2.out
        dsimp only at h2
        split at h2
        · rename_i hal2
          have H3 := hid h2
          have hal3 : acc.length < 1048576 := hal2
          unfold declV
          clear h2
          go_wp2_with (at_builtin; refine Kd.N_append Kd.string (w0 := w2) 0 rfl _ _ 35 9 (.string ⟨#[]⟩) 16 rfl Try.underlying35 infoStr rfl (by decide) (by decide) (.slice Av acc.length cv) acc s [.string s] (fun _ => True) (fun _ => False) ?c1 ?c2 (fun _ _ => rfl) (fun _ hk => hk.elim) (fun _ _ => trivial) (Kd.N_mono HO2.out.1 (fun _ _ => trivial)) (Below.refl _ _) (Nat.zero_le _) (by omega) ?_; (case c1 => rfl); (case c2 => rfl); intro v1 w3 hN3 _ hg3 hat3; have HO3 := hid (HO2.out.grow (by have := HBB.out.size; omega) hN3 hat3); have HG3 := hid hg3; clear hN3 hg3 hat3)
          go_roundw
          case rel => exact ⟨j + 1, _, acc ++ [s], by omega, by go_num, rfl, HO3, H3, hid (below_grown HBB.out (Nat.le_refl _) HG3.out (fun k hk => (HO2.out.2 k hk).1))⟩
          case measure => simp [RowKit.intOf]; omega
        · cases h2
    · obtain rfl : j = ks.length := by omega
      have hn := HN.out
      rw [List.drop_length] at hn
      obtain rfl : acc = ns := Option.some.inj hn
      subst ev
      clear hn
      go_wp2_with fail
      go_ret
      exact ⟨_, rfl, HO.out, HB.out⟩
end
end Go.Proofs.Yticbjhicjegfoaa.Q
