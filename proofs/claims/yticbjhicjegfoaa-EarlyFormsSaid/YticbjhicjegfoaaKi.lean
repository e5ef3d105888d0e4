/- What a proof further on needs (part i). -/
import Derived.Carry
import Derived.Maps.Keyed
import Derived.Maps.Own
import Derived.Maps.OwnOps
import Derived.Maps.OwnSet
import Derived.Maps.Views
import Derived.Test.YticbjhicjegfoaaKh
set_option linter.unusedVariables false
namespace Go.Proofs.Yticbjhicjegfoaa.Q
open Go.RowKit Go.Maps
open Go.Proofs.YticbjhicjegfoaaW.PrintWords
section
variable {w w' : World} {okl : Nat → Prop} {g cap k : Nat} {l : List Nd} {n : Nd}
set_option maxHeartbeats 1600000 in
set_option maxRecDepth 100000 in
theorem declE_c {a : Nat} {d : Option ByteArray} (h0 : w.cell? ⟨a, 0, none⟩ = some (.slice (some ⟨g, 0, none⟩) l.length cap)) (h : NR w okl g cap l) (hd : declF l k = some d) :
    Calls Try.prog 97 #[ptr a, .int .i64 k] w fun e w' => e = .returned (declV d) ∧ Below w.heap.size w w' := by
  unfold declF at hd
  obtain ⟨n, hk, hd⟩ := Option.bind_eq_some_iff.1 hd
  obtain ⟨A3, c3, A4, c4, hlt, n0, n1, n2, n3, n4, n5, _, _, l4, f4⟩ := h.node hk
  have hlt' : (k : Int) < (l.length : Int) := by omega
  have hb1 : Below w.heap.size w (w.alloc (.cells #[.int .i64 n.kind, .int .i64 n.num, .string n.text, .slice A3 n.names.length c3, .slice A4 n.kids.length c4, .int .i64 n.at_] 38)) := (Below.refl _ _).alloc (Nat.le_refl _) _
  have HB := hid hb1
  clear hb1
  unfold ptr
  split at hd
  · rename_i hk2
    injection hd with hd
    subst hd
    rcases Decidable.em (n.kind = 21) with h21 | h21
    · have t1 : (n.kind == (21 : Int)) = true := by simp [h21]
      have H := hid h
      have F4 := hid f4
      clear h f4 hk h21 hk2
      unfold declV
      go_enter Try.func97, Try.ntmps97
      go_wp2_with fail
      go_ret2
      exact ⟨rfl, HB.out⟩
    · have t1 : (n.kind == (21 : Int)) = false := by simp [h21]
      have t2 : (n.kind == (22 : Int)) = true := by simp; omega
      have H := hid h
      have F4 := hid f4
      clear h f4 hk h21 hk2
      unfold declV
      go_enter Try.func97, Try.ntmps97
      go_wp2_with fail
      go_ret2
      exact ⟨rfl, HB.out⟩
  · rename_i hk2
    have t1 : (n.kind == (21 : Int)) = false := by simp; omega
    have t2 : (n.kind == (22 : Int)) = false := by simp; omega
    split at hd
    · rename_i h23
      have t3 : (n.kind == (23 : Int)) = true := by simp [h23]
      obtain ⟨j, hj, hd⟩ := Option.bind_eq_some_iff.1 hd
      obtain ⟨m, hm, hd⟩ := Option.map_eq_some_iff.1 hd
      obtain ⟨_, _, _, _, hlt2, m0, m1, m2, _⟩ := h.node hm
      subst hd
      have hjl := (List.getElem?_eq_some_iff.1 hj).1
      obtain ⟨ad, rfl, hj0⟩ := Kd.at_int (Kd.F_now f4) 0 (by omega) (by omega)
      have hx : rd (ints n.kids) 0 = (j : Int) := by
        unfold rd ints
        simp [List.getElem?_map, hj]
      rw [hx] at hj0
      have hj0' : w.cell? ad = some (.int .i64 j) := by simpa [Addr.add] using hj0
      have hp : (0 : Int) < (n.kids.length : Int) := by omega
      have hlt2' : (j : Int) < (l.length : Int) := by omega
      have hadk := cell_lt hj0'
      have hak : a < w.heap.size := cell_lt h0
      have hgk : g < w.heap.size := cell_lt m2
      have H := hid h
      have F4 := hid f4
      clear h f4 hk h23 hk2 hj hm hj0 hx
      unfold declV
      go_enter Try.func97, Try.ntmps97
      go_wp2_with fail
      go_quiet (fail)
      go_wp2_with fail
      go_ret2
      exact ⟨rfl, pw_below_drewN HB.out _⟩
    · rename_i h23
      injection hd with hd
      subst hd
      have t3 : (n.kind == (23 : Int)) = false := by simp; omega
      have H := hid h
      have F4 := hid f4
      clear h f4 hk h23 hk2
      unfold declV
      go_enter Try.func97, Try.ntmps97
      go_wp2_with fail
      go_ret2
      exact ⟨rfl, HB.out⟩
end
/-- Is a text among some? -/
def hasT (L : List ByteArray) (x : ByteArray) : Bool := L.any (fun y => beqB y x)
/-- A map that has these texts, each with 'true'. -/
def SetS (w : World) (mb : Nat) (L : List ByteArray) : Prop :=
  ∃ D : DataW Unit, w.ownsMap Try.prog 9 (plainElem Try.prog 4) mb L.length D ∧ ∀ x : ByteArray, D.atKey (.string x.toList) (.lit (.bool false)) = .lit (.bool (hasT L x))
section
variable {w w' : World} {mb : Nat} {L : List ByteArray} {x : ByteArray}
theorem strKeyed : Keyed Try.prog 9 := string_keyed Try.underlying9
theorem strKey (hs : x.size ≤ maxLen) : keyOf Try.prog 9 (.string x) = some (.string x.toList) := by
  simp [keyOf, mapKey, Try.underlying9, hs, ByteArray.toList_eq]
theorem boolZero (w : World) : (zeroValue 4).run Try.prog w = .ok (.bool false) w := by
  obtain ⟨i, hi, hz, -⟩ := info_parts (show (Try.prog.info? 4).map (fun i => (i.zero, i.size, i.bytes)) = some (some (.bool false), 1, 1) by kernel_rfl)
  simp [zeroValue, typeInfo, hi, hz]
theorem SetS.made (w : World) : SetS (w.alloc (.map #[] 0)) w.heap.size [] := ⟨.map [], World.ownsMap_made w _ _ _, fun x => by simp [DataW.atKey, hasT]⟩
set_option maxRecDepth 100000 in
theorem SetS.look (h : SetS w mb L) (x : ByteArray) (hs : x.size ≤ maxLen) : (Instr.lookup 127 (.map (some mb)) (.string x) false).run Try.prog w = .ok (.bool (hasT L x)) w := by
  obtain ⟨D, ho, hD⟩ := h
  obtain ⟨v, ps, hr, hv⟩ := ho.lookup strKeyed Try.underlying127 (boolZero w) (plainElem_bool Try.underlying4 false) (strKey (x := x) hs)
  rw [hD x] at hv
  have : v = .bool (hasT L x) := by
    unfold plainElem at hv
    rw [Try.underlying4] at hv
    cases v <;> simp at hv
    rw [hv.1]
  rw [hr, this]
theorem SetS.put (h : SetS w mb L) (x : ByteArray) (hs : x.size ≤ maxLen) (hl : L.length < maxLen) :
    ∃ w', (Instr.mapUpdate 127 (.map (some mb)) (.string x) (.bool true)).run Try.prog w = .ok () w' ∧ SetS w' mb (L ++ [x]) ∧ w.grownBy w' (some mb) := by
  obtain ⟨D, ho, hD⟩ := h
  obtain ⟨w', hr, h1, h2⟩ := ho.update strKeyed Try.underlying127 hl (strKey hs) (plainElem_bool Try.underlying4 true)
  refine ⟨w', hr, ⟨_, by rw [List.length_append]; exact h1, fun y => ?_⟩, h2⟩
  cases hy : beqB x y
  · have hne : (Lit.string y.toList) ≠ .string x.toList := fun e => by
      injection e with e
      have h3 := toList_beq x y
      rw [hy, e] at h3
      simp at h3
    rw [atKey_put_other hne, hD y]
    simp [hasT, hy]
  · obtain rfl := (beqB_iff _ _).1 hy
    rw [atKey_put_same ho.isMap (show WideAt.IsKeyLit (.string x.toList) from trivial)]
    simp [hasT, hy]
theorem twiceG_had (had had' l : List ByteArray) (h : ∀ x, hasT had x = hasT had' x) : twiceG had l = twiceG had' l := by
  induction l generalizing had had' with
  | nil => rfl
  | cons y l ih =>
    have h1 : had.any (fun z => beqB z y) = had'.any (fun z => beqB z y) := h y
    unfold twiceG
    rw [h1, ih (y :: had) (y :: had') (fun x => by simp only [hasT, List.any_cons] at h ⊢; rw [show had.any (fun z => beqB z x) = had'.any (fun z => beqB z x) from h x])]
theorem hasT_snoc (L : List ByteArray) (y x : ByteArray) : hasT (y :: L) x = hasT (L ++ [y]) x := by
  simp [hasT, Bool.or_comm]
set_option maxHeartbeats 1600000 in
set_option maxRecDepth 100000 in
theorem twice_c {A : Option Addr} {c : Nat} {l : List ByteArray} (h : Kd.C Kd.string w A l.length l) (hl : l.length ≤ 1048576) (hs : ∀ x ∈ l, x.size ≤ 1048576) : Calls Try.prog 73 #[.slice A l.length c] w fun e w' => e = .returned (.bool (twiceF l)) ∧ Below w.heap.size w w' := by
  have H := hid h
  have HS := hid hs
  have hm := SetS.made w
  have HM := hid hm
  have HB := hid ((Below.refl w.heap.size w).alloc (Nat.le_refl _) (.map #[] 0))
  clear h hs hm
  have hmk := fun w : World => run_makeMap (P := Try.prog) 127 w
  go_enter Try.func73, Try.ntmps73
  go_wp2_with fail
  go_loopw [9] (fun x wx => ∃ (j : Nat) (L : List ByteArray), j ≤ l.length ∧ x = .int .i64 j ∧ L.length = j ∧ Box (SetS wx w.heap.size L) ∧ Box (twiceG L (l.drop j) = twiceF l) ∧ Box (Below w.heap.size w wx)) (fun x _ => l.length - (RowKit.intOf x).toNat)
  case atStart => exact ⟨0, [], Nat.zero_le _, rfl, rfl, HM, hid rfl, HB⟩
  case round =>
    clear HM HB
    obtain ⟨j, L, hj, rfl, hL, HM, HT, HB⟩ := hrel
    rcases Nat.lt_or_ge j l.length with hlt | hge
    · obtain ⟨ad, rfl, hc⟩ := Kd.at_string (Kd.C_below H.out HB.out) (j : Int) (by omega) (by omega)
      have hx : rdOf ByteArray.empty l (j : Int) = l[j] := by unfold rdOf; simp [hlt]
      rw [hx, Int.toNat_natCast] at hc
      have ht := HT.out
      rw [List.drop_eq_getElem_cons hlt] at ht
      have hsx := HS.out l[j] (List.getElem_mem hlt)
      generalize l[j] = x at hc ht hsx
      have hsx' : x.size ≤ maxLen := by unfold maxLen; omega
      have hlt' : (j : Int) < (l.length : Int) := by omega
      have hp : (0 : Int) ≤ (j : Int) := by omega
      have hlook := HM.out.look x hsx'
      have e : L.any (fun z => beqB z x) = hasT L x := rfl
      unfold twiceG at ht
      rw [e] at ht
      cases hb : hasT L x
      · rw [hb, if_neg (by decide)] at ht
        rw [hb] at hlook
        have ht2 : twiceG (L ++ [x]) (l.drop (j + 1)) = twiceF l := (twiceG_had _ _ _ (fun y => (hasT_snoc L x y).symm)).trans ht
        obtain ⟨w2, hput, hm2, hg2⟩ := HM.out.put x hsx' (by unfold maxLen; omega)
        have HT2 := hid ht2
        have HM2 := hid hm2
        have HG2 := hid hg2
        clear ht ht2 hm2 hg2 HM HT e hx hb
        go_wp2_with fail
        go_roundw
        case rel => exact ⟨j + 1, L ++ [x], by omega, by go_num, by simp [hL], HM2, HT2, hid (below_grown HB.out (Nat.le_refl _) HG2.out (fun k hk => by injection hk with hk; omega))⟩
        case measure => simp [RowKit.intOf]; omega
      · rw [hb, if_pos rfl] at ht
        rw [hb] at hlook
        have HT2 := hid ht
        clear ht HM HT e hx hb
        go_wp2_with fail
        go_ret
        exact ⟨ret_bool HT2.out.symm, HB.out⟩
    · obtain rfl : j = l.length := by omega
      have ht := HT.out
      rw [List.drop_length] at ht
      have HT2 := hid (show false = twiceF l from ht)
      clear ht HT
      go_wp2_with fail
      go_ret
      exact ⟨ret_bool HT2.out.symm, HB.out⟩
end
end Go.Proofs.Yticbjhicjegfoaa.Q
