/- Nodes that are read; the name that a statement makes; rows of texts. -/
import Derived.Test.YticbjhicjegfoaaQs
import Derived.Test.YticbjhicjegfoaaSa
import Derived.Deep.QuietTactic
import Derived.BigQuiet
namespace Go.Proofs.Yticbjhicjegfoaa.Q
open Go.RowKit
open Go.Proofs.YticbjhicjegfoaaW.PrintWords

/-- A row of nodes that is read. -/
abbrev NR (w : World) (okl : Nat → Prop) (g cap : Nat) (l : List Nd) : Prop := Kd.N kNd 38 w 0 okl (.slice (some ⟨g, 0, none⟩) l.length cap) l
section
variable {w w' : World} {okl : Nat → Prop} {g cap k : Nat} {l : List Nd} {n : Nd}
theorem NR.node (h : NR w okl g cap l) (hk : l[k]? = some n) : ∃ A3 c3 A4 c4, k < l.length ∧ w.cell? ⟨g, k * 6, none⟩ = some (.int .i64 n.kind) ∧ w.cell? ⟨g, k * 6 + 1, none⟩ = some (.int .i64 n.num) ∧ w.cell? ⟨g, k * 6 + 2, none⟩ = some (.string n.text) ∧
    w.cell? ⟨g, k * 6 + 3, none⟩ = some (.slice A3 n.names.length c3) ∧ w.cell? ⟨g, k * 6 + 4, none⟩ = some (.slice A4 n.kids.length c4) ∧ w.cell? ⟨g, k * 6 + 5, none⟩ = some (.int .i64 n.at_) ∧
    n.names.length ≤ c3 ∧ Kd.F Kd.string w okl A3 n.names.length n.names ∧ n.kids.length ≤ c4 ∧ Kd.F (Kd.int .i64) w okl A4 n.kids.length (ints n.kids) := by
  have hlt := (List.getElem?_eq_some_iff.1 hk).1
  obtain ⟨c, hcl, hF, hcc, _⟩ := Kd.N_elem h n (k : Int) (by omega) (by omega)
  have hx : l.getD ((k : Int)).toNat n = n := by simp [List.getD_eq_getElem?_getD, hk]
  rw [hx] at hF
  obtain ⟨A3, c3, A4, c4, rfl, l3, _, l4, _⟩ := kNd_open (Kd.FK_now hF)
  have h0 := hcc 0 _ rfl
  have h1 := hcc 1 _ rfl
  have h2 := hcc 2 _ rfl
  have h3 := hcc 3 _ rfl
  have h4 := hcc 4 _ rfl
  have h5 := hcc 5 _ rfl
  rw [Int.toNat_natCast] at h0 h1 h2 h3 h4 h5
  refine ⟨A3, c3, A4, c4, hlt, h0, h1, h2, h3, h4, h5, l3, Kd.F_mono (ok := fun j => okl j ∧ j ≠ g) (fun W' hW => ?_) (fun _ hj => hj.1), l4, Kd.F_mono (ok := fun j => okl j ∧ j ≠ g) (fun W' hW => ?_) (fun _ hj => hj.1)⟩
  · obtain ⟨B3, d3, B4, d4, e, _, q3, _, q4⟩ := kNd_open (hF W' hW)
    simp only [List.cons.injEq, Value.slice.injEq, true_and, and_true] at e
    rw [e.1.1]; exact q3
  · obtain ⟨B3, d3, B4, d4, e, _, q3, _, q4⟩ := kNd_open (hF W' hW)
    simp only [List.cons.injEq, Value.slice.injEq, true_and, and_true] at e
    rw [e.2.1]; exact q4
theorem NR.below (h : NR w okl g cap l) (hb : Below w.heap.size w w') : NR w' okl g cap l := Kd.N_below h hb
theorem cell_lt {p : Addr} {u : Value} (h : w.cell? p = some u) : p.block < w.heap.size := by
  rcases Nat.lt_or_ge p.block w.heap.size with h' | h'
  · exact h'
  · unfold World.cell? at h
    rw [Array.getElem?_eq_none h'] at h
    cases h
theorem beq_i (a b : Int) (q : Bool) (h : decide (a = b) = q) : (a == b) = q := by rw [← h]; rfl
def declV (d : Option ByteArray) : Value := match d with
  | some s => .tuple #[.string s, .bool true]
  | none => .tuple #[.string ⟨#[]⟩, .bool false]
set_option maxHeartbeats 1600000 in
set_option maxRecDepth 100000 in
theorem decl_c {a : Nat} {d : Option ByteArray} (h0 : w.cell? ⟨a, 0, none⟩ = some (.slice (some ⟨g, 0, none⟩) l.length cap)) (h : NR w okl g cap l) (hd : declF l k = some d) :
    Calls Try.prog 64 #[ptr a, .int .i64 k] w fun e w' => e = .returned (declV d) ∧ Below w.heap.size w w' := by
  unfold declF at hd
  obtain ⟨n, hk, hd⟩ := Option.bind_eq_some_iff.1 hd
  obtain ⟨A3, c3, A4, c4, hlt, n0, n1, n2, n3, n4, n5, _, _, l4, f4⟩ := h.node hk
  have hlt' : (k : Int) < (l.length : Int) := by omega
  have hb1 : Below w.heap.size w (w.alloc (.cells #[.int .i64 n.kind, .int .i64 n.num, .string n.text, .slice A3 n.names.length c3, .slice A4 n.kids.length c4, .int .i64 n.at_] 38)) := (Below.refl _ _).alloc (Nat.le_refl _) _
  have HB := hid hb1
  clear hb1
  unfold ptr
  split at hd
  · rename_i hk2
    injection hd with hd
    subst hd
    rcases Decidable.em (n.kind = 21) with h21 | h21
    · have t1 : (n.kind == (21 : Int)) = true := by simp [h21]
      have H := hid h
      have F4 := hid f4
      clear h f4 hk h21 hk2
      unfold declV
      go_enter Try.func64, Try.ntmps64
      go_wp2_with fail
      go_ret2
      exact ⟨rfl, HB.out⟩
    · have t1 : (n.kind == (21 : Int)) = false := by simp [h21]
      have t2 : (n.kind == (22 : Int)) = true := by simp; omega
      have H := hid h
      have F4 := hid f4
      clear h f4 hk h21 hk2
      unfold declV
      go_enter Try.func64, Try.ntmps64
      go_wp2_with fail
      go_ret2
      exact ⟨rfl, HB.out⟩
  · rename_i hk2
    have t1 : (n.kind == (21 : Int)) = false := by simp; omega
    have t2 : (n.kind == (22 : Int)) = false := by simp; omega
    split at hd
    · rename_i h23
      have t3 : (n.kind == (23 : Int)) = true := by simp [h23]
      obtain ⟨j, hj, hd⟩ := Option.bind_eq_some_iff.1 hd
      obtain ⟨m, hm, hd⟩ := Option.map_eq_some_iff.1 hd
      obtain ⟨_, _, _, _, hlt2, m0, m1, m2, _⟩ := h.node hm
      subst hd
      have hjl := (List.getElem?_eq_some_iff.1 hj).1
      obtain ⟨ad, rfl, hj0⟩ := Kd.at_int (Kd.F_now f4) 0 (by omega) (by omega)
      have hx : rd (ints n.kids) 0 = (j : Int) := by
        unfold rd ints
        simp [List.getElem?_map, hj]
      rw [hx] at hj0
      have hj0' : w.cell? ad = some (.int .i64 j) := by simpa [Addr.add] using hj0
      have hp : (0 : Int) < (n.kids.length : Int) := by omega
      have hlt2' : (j : Int) < (l.length : Int) := by omega
      have hadk := cell_lt hj0'
      have hak : a < w.heap.size := cell_lt h0
      have hgk : g < w.heap.size := cell_lt m2
      have H := hid h
      have F4 := hid f4
      clear h f4 hk h23 hk2 hj hm hj0 hx
      unfold declV
      go_enter Try.func64, Try.ntmps64
      go_wp2_with fail
      go_quiet (fail)
      go_wp2_with fail
      go_ret2
      exact ⟨rfl, pw_below_drewN HB.out _⟩
    · rename_i h23
      injection hd with hd
      subst hd
      have t3 : (n.kind == (23 : Int)) = false := by simp; omega
      have H := hid h
      have F4 := hid f4
      clear h f4 hk h23 hk2
      unfold declV
      go_enter Try.func64, Try.ntmps64
      go_wp2_with fail
      go_ret2
      exact ⟨rfl, HB.out⟩
end
open Go.Proofs.YticbjhicjegfoaaW.PrintWords

/-- The first place of a text; -1: it is none of them. -/
def idxV (s : ByteArray) (l : List ByteArray) : Int := match placeN s l 0 with
  | some j => (j : Int)
  | none => -1
theorem placeN_ge : ∀ {l : List ByteArray} {s : ByteArray} {n j : Nat}, placeN s l n = some j → n ≤ j
  | [], _, _, _, h => by simp [placeN] at h
  | x :: l, s, n, j, h => by
    unfold placeN at h
    split at h
    · injection h with h; omega
    · have := placeN_ge h; omega
theorem placeN_lt : ∀ {l : List ByteArray} {s : ByteArray} {n j : Nat}, placeN s l n = some j → j < n + l.length
  | [], _, _, _, h => by simp [placeN] at h
  | x :: l, s, n, j, h => by
    unfold placeN at h
    split at h
    · injection h with h; simp; omega
    · have := placeN_lt h; simp; omega
theorem beqB_comm (a b : ByteArray) : beqB a b = beqB b a := by
  rw [Bool.eq_iff_iff, beqB_iff, beqB_iff]; exact ⟨Eq.symm, Eq.symm⟩
theorem placeN_cons (s x : ByteArray) (l : List ByteArray) (n : Nat) : placeN s (x :: l) n = if beqB x s then some n else placeN s l (n + 1) := rfl
theorem ret_i {a b : Int} (h : a = b) : Ending.returned (.int .i64 a) = Ending.returned (.int .i64 b) := by rw [h]
section
variable {w : World} {A : Option Addr} {c : Nat} {l : List ByteArray}
set_option maxHeartbeats 1600000 in
set_option maxRecDepth 100000 in
theorem index_c (h : Kd.C Kd.string w A l.length l) (hl : l.length ≤ 1048576) (s : ByteArray) : Calls Try.prog 93 #[.slice A l.length c, .string s] w fun e w' => e = .returned (.int .i64 (idxV s l)) ∧ w' = w := by
  have H := hid h
  clear h
  go_enter Try.func93, Try.ntmps93
  go_wp2_with fail
  go_loop [8] (fun i => ∃ j : Nat, j ≤ l.length ∧ i = .int .i64 j ∧ Box (placeN s (l.drop j) j = placeN s l 0)) (fun i => l.length - (RowKit.intOf i).toNat)
  case atStart => exact ⟨0, Nat.zero_le _, rfl, hid (by simp)⟩
  case round =>
    obtain ⟨j, hj, rfl, HA⟩ := hrel
    rcases Nat.lt_or_ge j l.length with hlt | hge
    · obtain ⟨ad, rfl, hc⟩ := Kd.at_string H.out (j : Int) (by omega) (by omega)
      have hx : rdOf ByteArray.empty l (j : Int) = l[j] := by unfold rdOf; simp [hlt]
      rw [hx, Int.toNat_natCast] at hc
      have htk := List.drop_eq_getElem_cons hlt
      have ha := HA.out
      rw [htk] at ha
      rw [placeN_cons] at ha
      generalize l[j] = x at hc ha
      have hlt' : (j : Int) < (l.length : Int) := by omega
      have hp : (0 : Int) ≤ (j : Int) := by omega
      cases hb : beqB x s
      · have hq : (s.toList == x.toList) = false := by rw [toList_beq, beqB_comm]; exact hb
        rw [hb, if_neg (by decide)] at ha
        have HB := hid ha
        clear hx htk hb ha
        go_wp2_with fail
        go_round
        case rel => exact ⟨j + 1, by omega, by go_num, HB⟩
        case measure => simp [RowKit.intOf]; omega
      · have hq : (s.toList == x.toList) = true := by rw [toList_beq, beqB_comm]; exact hb
        rw [hb] at ha
        have HB : Box ((j : Int) = idxV s l) := hid (by unfold idxV; rw [← ha]; rfl)
        clear hx htk hb ha
        go_wp2_with fail
        go_ret
        exact ⟨ret_i HB.out, rfl⟩
    · obtain rfl : j = l.length := by omega
      have HB : Box ((-1 : Int) = idxV s l) := hid (by have := HA.out; rw [List.drop_length] at this; unfold idxV; rw [← this]; rfl)
      clear HA
      go_wp2_with fail
      go_ret
      exact ⟨ret_i HB.out, rfl⟩
set_option maxHeartbeats 400000 in
set_option maxRecDepth 100000 in
theorem contains_c (h : Kd.C Kd.string w A l.length l) (hl : l.length ≤ 1048576) (s : ByteArray) : Calls Try.prog 92 #[.slice A l.length c, .string s] w fun e w' => e = .returned (.bool (placeN s l 0).isSome) ∧ w' = w := by
  have hq : (placeN s l 0).isSome = decide (0 ≤ idxV s l) := by
    unfold idxV
    cases placeN s l 0 <;> simp
  have HQ := hid hq
  have H := hid h
  clear h hq
  go_enter Try.func92, Try.ntmps92
  go_wp2_with fail
  refine (index_c H.out hl s).mono ?_
  rintro e w1 ⟨rfl, rfl⟩
  go_wp2_with fail
  go_ret
  exact ⟨ret_bool HQ.out, rfl⟩
set_option maxHeartbeats 400000 in
set_option maxRecDepth 100000 in
theorem isin_c (h : Kd.C Kd.string w A l.length l) (hl : l.length ≤ 1048576) {s : ByteArray} {b : Nat} (hb : w.cell? ⟨b, 0, none⟩ = some (.string s)) : Calls Try.prog 91 #[.slice A l.length c, .pointer (some ⟨b, 0, none⟩)] w fun e w' => e = .returned (.bool (placeN s l 0).isSome) ∧ w' = w := by
  have H := hid h
  clear h
  go_enter Try.func91, Try.ntmps91
  go_wp2_with fail
  refine (contains_c H.out hl s).mono ?_
  rintro e w1 ⟨rfl, rfl⟩
  go_wp2_with fail
  go_ret
  exact ⟨rfl, rfl⟩
end
/-- How far out the first scope is that has a name. -/
def depthN (s : ByteArray) : List (List ByteArray) → Nat → Option Nat
  | [], _ => none
  | x :: l, n => if (placeN s x 0).isSome then some n else depthN s l (n + 1)
def depthV (s : ByteArray) (o : List (List ByteArray)) : Int := match depthN s o.reverse 0 with
  | some d => (d : Int)
  | none => -1
theorem spotR_depth (s : ByteArray) : ∀ (l : List (List ByteArray)) (n : Nat), spotR s l n = match depthN s l n with
    | none => ⟨-1, 0⟩
    | some d => ⟨(d : Int), idxV s (l.getD (d - n) [])⟩
  | [], _ => rfl
  | x :: l, n => by
    unfold spotR depthN
    cases h : placeN s x 0 with
    | some j => simp [idxV, h]
    | none =>
      simp only [Option.isSome_none, Bool.false_eq_true, if_false]
      rw [spotR_depth s l (n + 1)]
      cases h2 : depthN s l (n + 1) with
      | none => rfl
      | some d =>
        have : n + 1 ≤ d := by
          have key : ∀ (l : List (List ByteArray)) (n d : Nat), depthN s l n = some d → n ≤ d := by
            intro l
            induction l with
            | nil => intro n d h; simp [depthN] at h
            | cons y l ih =>
              intro n d h
              unfold depthN at h
              split at h
              · injection h with h; omega
              · have := ih _ _ h; omega
          exact key l _ _ h2
        simp only
        rw [show d - n = (d - (n + 1)) + 1 by omega, List.getD_cons_succ]
section
variable {w : World} {a b : Nat} {oko : Nat → Prop} {opv : Value} {o : List (List ByteArray)} {s : ByteArray}
theorem Kd.slice_open {w : World} {x : List ByteArray} {cs : List Value} (h : (Kd.slice 9 Kd.string).K w x cs) : ∃ A c, cs = [.slice A x.length c] ∧ x.length ≤ c ∧ Kd.C Kd.string w A x.length x := by
  obtain ⟨A, c, rfl, h1, h2⟩ := h
  exact ⟨A, c, rfl, h1, h2⟩
/-- A scope's names, read. -/
theorem open_at {n cap : Nat} {A : Option Addr} (h : Kd.N (Kd.slice 9 Kd.string) 35 w 0 oko (.slice A n cap) o) {i : Nat} {x : List ByteArray} (hx : o[i]? = some x) : ∃ g A1 c1, A = some ⟨g, 0, none⟩ ∧ i < o.length ∧ w.cell? ⟨g, i, none⟩ = some (.slice A1 x.length c1) ∧ Kd.C Kd.string w A1 x.length x := by
  have hlt := (List.getElem?_eq_some_iff.1 hx).1
  obtain ⟨g, cap', e, _, _, _⟩ := Kd.N_form h (by omega)
  injection e with e1 e2 e3
  subst e1 e2
  obtain ⟨c, hcl, hF, hcc, _⟩ := Kd.N_elem h x (i : Int) (by omega) (by omega)
  have hx' : o.getD ((i : Int)).toNat x = x := by simp [List.getD_eq_getElem?_getD, hx]
  rw [hx'] at hF
  obtain ⟨A1, c1, rfl, _, hC⟩ := Kd.slice_open (Kd.FK_now hF)
  have h0 := hcc 0 _ rfl
  rw [Int.toNat_natCast] at h0
  exact ⟨g, A1, c1, rfl, hlt, by simpa [Kd.slice] using h0, hC⟩
end
open Go.Proofs.YticbjhicjegfoaaW.PrintWords

theorem wrapI {x : Int} (h : -9223372036854775808 ≤ x ∧ x ≤ 9223372036854775807) : IntKind.i64.wrap x = x := by
  simp only [IntKind.wrap, IntKind.bits, IntKind.signed]
  simp only [show (2 : Int) ^ 64 = 18446744073709551616 by decide, show (2 : Int) ^ (64 - 1) = 9223372036854775808 by decide]
  by_cases h0 : 0 ≤ x
  · rw [if_neg (by simp; omega)]; omega
  · rw [if_pos (by simp; omega)]; omega
theorem depthN_cons (s : ByteArray) (x : List ByteArray) (l : List (List ByteArray)) (n : Nat) : depthN s (x :: l) n = if (placeN s x 0).isSome then some n else depthN s l (n + 1) := rfl
section
variable {w : World} {a b : Nat} {oko : Nat → Prop} {A : Option Addr} {cap : Nat} {o : List (List ByteArray)} {s : ByteArray}
theorem isin_hit {c : Nat} {l : List ByteArray} (h : Kd.C Kd.string w A l.length l) (hl : l.length ≤ 1048576) (hb : w.cell? ⟨b, 0, none⟩ = some (.string s)) {q : Bool} (hq : (placeN s l 0).isSome = q) : Calls Try.prog 91 #[.slice A l.length c, .pointer (some ⟨b, 0, none⟩)] w fun e w' => e = .returned (.bool q) ∧ w' = w := by
  rw [← hq]; exact isin_c h hl hb
set_option maxHeartbeats 1600000 in
set_option maxRecDepth 100000 in
theorem find_c (h3 : w.cell? ⟨a, 3, none⟩ = some (.slice A o.length cap)) (h : Kd.N (Kd.slice 9 Kd.string) 35 w 0 oko (.slice A o.length cap) o) (hs : ∀ x ∈ o, x.length ≤ 1048576) (hb : w.cell? ⟨b, 0, none⟩ = some (.string s)) (hl : o.length ≤ 1048576) :
    Calls Try.prog 90 #[.pointer (some ⟨a, 3, none⟩), .func (.func 91) #[] #[.pointer (some ⟨b, 0, none⟩)]] w fun e w' => e = .returned (.int .i64 (depthV s o)) ∧ ∃ m, w' = w.drewN m := by
  have H := hid h
  have HS := hid hs
  have HB := hid hb
  clear h hs hb
  go_enter Try.func90, Try.ntmps90
  go_wp2_with fail
  go_loopw [11] (fun x wx => ∃ i : Nat, i ≤ o.length ∧ x = .int .i64 i ∧ Box (depthN s (o.reverse.drop i) i = depthN s o.reverse 0) ∧ ∃ m, wx = w.drewN m) (fun x _ => o.length - (RowKit.intOf x).toNat)
  case atStart => exact ⟨0, Nat.zero_le _, rfl, hid (by simp), 0, rfl⟩
  case round =>
    obtain ⟨i, hi, rfl, HA, m, rfl⟩ := hrel
    rcases Nat.lt_or_ge i o.length with hlt | hge
    · obtain ⟨k, hk⟩ : ∃ k, k + 1 + i = o.length := ⟨o.length - 1 - i, by omega⟩
      have hkl : k < o.length := by omega
      obtain ⟨g, A1, c1, rfl, _, hc, hC⟩ := open_at H.out (List.getElem?_eq_getElem hkl)
      have hx : (o.reverse)[i]? = some o[k] := by
        rw [List.getElem?_reverse hlt, show o.length - 1 - i = k by omega]
        exact List.getElem?_eq_getElem hkl
      have hdr : o.reverse.drop i = o[k] :: o.reverse.drop (i + 1) := by
        obtain ⟨h1, h2⟩ := List.getElem?_eq_some_iff.1 hx
        rw [← h2]; exact List.drop_eq_getElem_cons h1
      have ha := HA.out
      rw [hdr] at ha
      rw [depthN_cons] at ha
      have hxs := HS.out o[k] (List.getElem_mem hkl)
      generalize o[k] = x at hc hC ha hxs
      have h3' : (w.drewN m).cell? ⟨a, 3, none⟩ = some (.slice (some ⟨g, 0, none⟩) o.length cap) := h3
      have hc' : (w.drewN m).cell? ⟨g, k, none⟩ = some (.slice A1 x.length c1) := hc
      have e1 : IntKind.i64.wrap (((o.length : Nat) : Int) - 1) = (k : Int) + (i : Int) := by rw [wrapI ⟨by omega, by omega⟩]; omega
      have e2 : IntKind.i64.wrap (k : Int) = (k : Int) := wrapI ⟨by omega, by omega⟩
      have hki : (k : Int) < (o.length : Int) := by omega
      have hki0 : (0 : Int) ≤ (k : Int) := by omega
      have hil : (i : Int) < (o.length : Int) := by omega
      have HC := hid hC
      cases hf : (placeN s x 0).isSome
      · rw [hf] at ha
        have HA2 := hid ha
        have HF := hid hf
        clear ha hf hdr hx HA hC
        go_wp2_with fail
        go_quiet ((go_at_call 91; exact (isin_hit (Kd.C_below HC.out (pw_below_drewN (Below.refl _ _) _)) hxs HB.out HF.out).mono fun _ _ h => ⟨h.1, _, h.2⟩))
        go_wp2_with fail
        go_roundw
        case rel => exact ⟨i + 1, by omega, by go_num, HA2, _, rfl⟩
        case measure => simp [RowKit.intOf]; omega
      · rw [hf, if_pos rfl] at ha
        have HE := hid (show (i : Int) = depthV s o by unfold depthV; rw [← ha])
        have HF := hid hf
        clear ha hf hdr hx HA hC
        go_wp2_with fail
        go_quiet ((go_at_call 91; exact (isin_hit (Kd.C_below HC.out (pw_below_drewN (Below.refl _ _) _)) hxs HB.out HF.out).mono fun _ _ h => ⟨h.1, _, h.2⟩))
        go_wp2_with fail
        go_ret
        exact ⟨ret_i HE.out, _, World.drewN_drewN _ _ _⟩
    · obtain rfl : i = o.length := by omega
      have HE := hid (show (-1 : Int) = depthV s o by
        have := HA.out
        rw [List.drop_of_length_le (by simp)] at this
        unfold depthV; rw [← this]; rfl)
      clear HA
      go_wp2_with fail
      go_ret
      exact ⟨ret_i HE.out, _, rfl⟩
end
end Go.Proofs.Yticbjhicjegfoaa.Q
