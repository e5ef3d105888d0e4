/- The law VintForms answers true, whatever the input: its plain part and its walk. -/
import Derived.Test.YtnincfdfobaooaaVC
import Derived.Lib.ConvBytes
namespace Go.Proofs.Ytnincfdfobaooaa.VForms
open Go.RowKit Go.Proofs.Ytnincfdfobaooaa.VM Go.Proofs.Ytnincfdfobaooaa.VC Go.Proofs.Ytnincfdfobaooaa.VB Go.Proofs.Ytnincfdfobaooaa.Ov
open Go.Proofs.YtnincfdfobaooaaW.PrintWords

theorem enc_last_pos : ∀ f u, 1 ≤ u → u < 128 ^ (f + 1) → 1 ≤ (enc f u).getD ((enc f u).length - 1) 0
  | 0, u, h1, h2 => by simp [enc]; omega
  | f + 1, u, h1, h2 => by
    simp only [enc]
    split
    · have h := enc_length f (u / 128)
      have ih := enc_last_pos f (u / 128) (by omega) (by rw [Int.pow_succ] at h2; omega)
      rw [List.length_cons, show (enc f (u / 128)).length + 1 - 1 = ((enc f (u / 128)).length - 1) + 1 by omega, List.getD_cons_succ]
      exact ih
    · simp; omega

theorem enc_two : ∀ f u, 0 ≤ u → u < 128 ^ (f + 1) → 2 ≤ (enc f u).length → 1 ≤ (enc f u).getD ((enc f u).length - 1) 0
  | 0, u, _, _, h => by simp [enc] at h
  | f + 1, u, h0, h1, h => by
    have : ¬ u < 1 := fun hu => by
      simp only [enc] at h
      rw [if_neg (by omega)] at h
      simp at h
    exact enc_last_pos (f + 1) u (by omega) h1

/-- The last byte of a number of several bytes is none that says nothing. -/
theorem P_last (n : Int) (hn : I64 n) (h : 2 ≤ (P n).size) : 1 ≤ bt (P n) (((P n).size - 1 : Nat) : Int) := by
  have hr := fold_range n hn.1 hn.2
  unfold P at h ⊢
  rw [strOfNums_size] at h ⊢
  rw [bt_strOfNums _ (enc_bytes 9 _ hr.1) _ (by omega)]
  exact enc_two 9 _ hr.1 (by omega) h

theorem rdl_run (s : ByteArray) (L : Nat) : ∀ (d i : Nat) (u : Int), i ≤ L → L < i + d → (∀ j, i ≤ j → j < L → 128 ≤ bt s j) → bt s L < 128 →
    ∃ U, (0 ≤ U ∧ U < 18446744073709551616) ∧ rdl s d u i = if (P (unfold_ U)).toList = (s.extract 0 (L + 1)).toList then (unfold_ U, (L : Int) + 1, 0) else (0, 0, 4)
  | 0, i, u, h1, h2, _, _ => by omega
  | d + 1, i, u, h1, h2, h3, h4 => by
    simp only [rdl]
    by_cases hi : i = L
    · subst hi
      rw [if_neg (by omega)]
      exact ⟨_, acc_range u _ _, rfl⟩
    · rw [if_pos (h3 i (by omega) (by omega))]
      exact rdl_run s L d (i + 1) _ (by omega) (by omega) (fun j a b => h3 j (by omega) b) h4

/-- A nought too many says nothing. -/
theorem R_nought (s : ByteArray) (L : Nat) (hL : 1 ≤ L) (hs : s.size = L + 1) (h : ∀ j : Nat, j < L → 128 ≤ bt s j) (h0 : bt s L = 0) : R s = (0, 0, 4) := by
  unfold R
  by_cases h10 : L < 10
  · obtain ⟨U, hU, e⟩ := rdl_run s L (min s.size 10) 0 0 (by omega) (by omega) (fun j _ hj => h j hj) (by omega)
    rw [e, if_neg]
    intro hc
    have e1 := toList_inj hc
    rw [← hs, ByteArray.extract_zero_size] at e1
    have hur := unfold_range U hU.1 hU.2
    have hp := P_last (unfold_ U) hur (by rw [e1]; omega)
    rw [e1, hs, show L + 1 - 1 = L by omega, h0] at hp
    omega
  · rw [rdl_all_more s _ _ _ (fun j _ hj => h j (by omega)), if_neg (by omega)]

/-- Ten bytes that do not end say nothing. -/
theorem R_endless (s : ByteArray) (hs : 10 ≤ s.size) (h : ∀ j : Nat, j < 10 → 128 ≤ bt s j) : R s = (0, 0, 4) := by
  unfold R
  rw [rdl_all_more s _ _ _ (fun j _ hj => h j (by omega)), if_neg (by omega)]

theorem G_four (s : ByteArray) (h : R s = (0, 0, 4)) : G s 0 = (0, 0, 4) := by
  unfold G
  rw [if_neg (by omega)]
  simp only [Int.toNat_zero, ByteArray.extract_zero_size, h]
  rfl
theorem GT_four (n : Int) (hn : I64 n) (h : n < 0 ∨ n > 4096) (rest : ByteArray) : GT (P n ++ rest) 0 = (⟨#[]⟩, 0, 4) := by
  unfold GT T
  rw [if_neg (by omega)]
  simp only [Int.toNat_zero, ByteArray.extract_zero_size, R_put n hn, if_true]
  rw [if_pos h]
  rfl

/-- Small numbers, of both signs, have one byte. -/
theorem P_one (n : Int) : (P n).size = 1 ↔ (-64 ≤ n ∧ n < 64) := by
  unfold P; rw [strOfNums_size]
  have e : enc 9 (fold n) = if fold n ≥ 128 then (fold n % 128 + 128) :: enc 8 (fold n / 128) else [fold n % 256] := rfl
  rw [e]
  have := enc_length 8 (fold n / 128)
  unfold fold at *
  by_cases hn : n < 0
  · simp only [if_pos hn] at *
    split
    · rw [List.length_cons]; omega
    · rw [List.length_singleton]; omega
  · simp only [if_neg hn] at *
    split
    · rw [List.length_cons]; omega
    · rw [List.length_singleton]; omega

theorem put_p {n : Int} {p : ByteArray} (h : Box (P n = p)) (hn : I64 n) (w : World) : Calls Try.prog 10 #[.int .i64 n] w fun e w' => e = .returned (.string p) ∧ Below w.heap.size w w' := by
  rw [← h.out]; exact put_c n hn w

/-- A text's bytes with another last one. -/
def lastSet (p : ByteArray) (y : Int) : ByteArray := strOfNums ((bytesOf p).set (p.size - 1) y)

theorem bytesOf_len (p : ByteArray) : (bytesOf p).length = p.size := by
  unfold bytesOf; rw [List.length_map, data_length]
theorem bytesOf_getD (p : ByteArray) (j : Nat) (h : j < p.size) : (bytesOf p).getD j 0 = bt p j := by
  unfold bytesOf bt
  simp only [Int.toNat_natCast]
  rw [dif_pos h, List.getD_eq_getElem?_getD, List.getElem?_map]
  have h' : j < p.data.toList.length := by rw [data_length]; exact h
  rw [List.getElem?_eq_getElem h']
  rfl
theorem bytesOf_range (p : ByteArray) : ∀ x ∈ bytesOf p, 0 ≤ x ∧ x < 256 := by
  intro x hx
  unfold bytesOf at hx
  obtain ⟨b, _, rfl⟩ := List.mem_map.1 hx
  have := b.toNat_lt
  omega
theorem lastSet_size (p : ByteArray) (y : Int) : (lastSet p y).size = p.size := by
  unfold lastSet; rw [strOfNums_size, List.length_set, bytesOf_len]
theorem lastSet_bt (p : ByteArray) (y : Int) (hy : 0 ≤ y ∧ y < 256) (j : Nat) (h : j < p.size) : bt (lastSet p y) j = if j = p.size - 1 then y else bt p j := by
  unfold lastSet
  rw [bt_strOfNums _ (fun x hx => by
    rcases List.mem_or_eq_of_mem_set hx with h | rfl
    · exact bytesOf_range p x h
    · exact hy) j (by rw [List.length_set, bytesOf_len]; exact h)]
  rw [← bytesOf_getD p j h, List.getD_eq_getElem?_getD, List.getD_eq_getElem?_getD, List.getElem?_set]
  by_cases hj : j = p.size - 1
  · subst hj; rw [if_pos rfl, if_pos (by rw [bytesOf_len]; exact h), if_pos rfl]; rfl
  · rw [if_neg (by omega), if_neg hj]

theorem conv_make (w1 : World) (p : ByteArray) (hp : 1 ≤ p.size) : ∃ B C, (convert 9 32 (.string p)).run Try.prog w1 = .ok (.slice (some ⟨w1.heap.size, 0, none⟩) p.size C) B ∧ p.size ≤ C ∧ Below w1.heap.size w1 B ∧ B.heap.size = w1.heap.size + 1 ∧
    B.cell? ⟨w1.heap.size, p.size - 1, none⟩ = some (.int .u8 (bt p ((p.size - 1 : Nat) : Int))) ∧ B.frozen? ⟨w1.heap.size, p.size - 1, none⟩ = false ∧
    ∀ y, (convert 32 9 (.slice (some ⟨w1.heap.size, 0, none⟩) p.size C)).run Try.prog (B.setCell ⟨w1.heap.size, p.size - 1, none⟩ (.int .u8 y)) = .ok (.string (lastSet p y)) (B.setCell ⟨w1.heap.size, p.size - 1, none⟩ (.int .u8 y)) := by
  have hC := grownCap_ge w1 p.size 0 5
  have hcell : ∀ j, j < p.size → (Go.Lib.bytesWorld w1 5 p).cell? ⟨w1.heap.size, j, none⟩ = some (.int .u8 (bt p j)) := fun j hj => by
    rw [Go.Lib.bytesWorld_cell w1 5 p j hj]
    congr 2
    unfold bt
    simp only [Int.toNat_natCast]
    rw [dif_pos hj, List.getD_eq_getElem?_getD]
    have h' : j < p.data.toList.length := by rw [data_length]; exact hj
    rw [List.getElem?_eq_getElem h']
    rfl
  refine ⟨Go.Lib.bytesWorld w1 5 p, grownCap w1 p.size 0 5, Go.Lib.run_convert_string_bytes w1 9 32 5 p Try.underlying9 Try.underlying32 Try.underlying5, hC, ?_, Go.Lib.bytesWorld_size w1 5 p, hcell _ (by omega), ?_, ?_⟩
  · exact ⟨rfl, rfl, rfl, by rw [Go.Lib.bytesWorld_size]; omega, fun k hk => Go.Lib.bytesWorld_at_old w1 5 p k hk⟩
  · have hsz : (Go.Lib.bytesCells w1 5 p).size = grownCap w1 p.size 0 5 := by
      unfold Go.Lib.bytesCells
      rw [Array.size_append, Array.size_map, Array.size_replicate]
      have : p.data.size = p.size := rfl
      omega
    simp only [World.frozen?, Go.Lib.bytesWorld_at_new, hsz]
    simp
    omega
  · intro y
    refine run_convert_bytes_arg _ 32 5 Try.underlying32 Try.underlying5 w1.heap.size 0 p.size _ ((bytesOf p).set (p.size - 1) y) (by rw [List.length_set, bytesOf_len]) (fun i hi => ?_) 9 Try.underlying9
    rw [List.getD_eq_getElem?_getD, List.getElem?_set, Nat.zero_add]
    by_cases hj : p.size - 1 = i
    · subst hj
      rw [if_pos rfl, if_pos (by rw [bytesOf_len]; exact hi), World.cell?_setCell_same _ _ _ (hcell _ hi)]
      rfl
    · rw [if_neg hj, ← List.getD_eq_getElem?_getD, bytesOf_getD p i hi, ← hcell i hi]
      exact World.cell?_setCell_other _ _ _ _ (fun h => hj (by injection h))

theorem conv_one (c : Int) : ∀ w : World, (convert 32 9 (.slice (some ⟨w.heap.size, 0, none⟩) 1 1)).run Try.prog (w.alloc (.cells #[.int .u8 c] 5)) = .ok (.string (strOfNums [c])) (w.alloc (.cells #[.int .u8 c] 5)) := fun w =>
  run_convert_bytes_arg _ 32 5 Try.underlying32 Try.underlying5 w.heap.size 0 1 1 [c] rfl (fun i hi => by
    obtain rfl : i = 0 := by omega
    rw [cell_of_row _ _ _ _ _ _ (new_row w (.cells #[.int .u8 c] 5))]; rfl) 9 Try.underlying9

theorem G_nought (m : Int) (hm : I64 m) : G (lastSet (P m) (Go.bits .or .u8 (bt (P m) (((P m).size - 1 : Nat) : Int)) 128) ++ ⟨#[0]⟩) 0 = (0, 0, 4) := by
  have hp := P_size m
  have hb := VM.bt_range (P m) (((P m).size - 1 : Nat) : Int)
  rw [or128 _ hb.1 hb.2]
  have hs := lastSet_size (P m) (bt (P m) (((P m).size - 1 : Nat) : Int) % 128 + 128)
  refine G_four _ (R_nought _ (P m).size hp.1 (by rw [ByteArray.size_append, hs]; rfl) (fun j hj => ?_) ?_)
  · rw [bt_append _ _ _ (by rw [hs]; exact hj), lastSet_bt _ _ (by omega) j hj]
    split
    · omega
    · exact P_more128 m hm j (by omega)
  · generalize bt (P m) (((P m).size - 1 : Nat) : Int) % 128 + 128 = y at hs ⊢
    unfold bt
    simp only [Int.toNat_natCast]
    rw [dif_pos (by rw [ByteArray.size_append, hs]; exact Nat.lt_succ_self _), ByteArray.getElem_append_right (by rw [hs]; exact Nat.le_refl _)]
    simp only [hs, Nat.sub_self]
    rfl

theorem G_endless (c : Int) : G ((⟨#[255, 255, 255, 255, 255, 255, 255, 255, 255, 255]⟩ : ByteArray) ++ strOfNums [c]) 0 = (0, 0, 4) := by
  refine G_four _ (R_endless _ (by rw [ByteArray.size_append]; exact Nat.le_add_right 10 _) (fun j hj => ?_))
  rw [bt_append _ _ _ hj]
  have : ∀ i : Fin 10, 128 ≤ bt (⟨#[255, 255, 255, 255, 255, 255, 255, 255, 255, 255]⟩ : ByteArray) (i.val : Int) := by decide +kernel
  exact this ⟨j, hj⟩

set_option maxHeartbeats 2000000 in
set_option maxRecDepth 100000 in
theorem forms_calls (n m c : Int) (w : World) (hn0 : -128 ≤ n) (hn1 : n < 128) (hm : I64 m) :
    Calls Try.prog 5 #[.int .i8 n, .int .i64 m, .int .u8 c] w fun e w' => e = .returned (.bool true) ∧ Below w.heap.size w w' := by
  obtain ⟨p, hp⟩ : ∃ p, P m = p := ⟨_, rfl⟩
  have hp1 := P_size m
  have hg1 := G_nought m hm
  rw [hp] at hp1 hg1
  have hg2 := G_endless c
  obtain ⟨k, hk⟩ : ∃ k, strOfNums [c] = k := ⟨_, rfl⟩
  have hk1 : k.size = 1 := by rw [← hk, strOfNums_size]; rfl
  have hk2 : 10 + k.size ≤ 9223372036854775807 := by omega
  have hv3 := conv_one c
  rw [hk] at hg2 hv3
  obtain ⟨a, ha⟩ : ∃ a, P (-5) = a := ⟨_, rfl⟩
  obtain ⟨b, hb⟩ : ∃ b, P 4097 = b := ⟨_, rfl⟩
  obtain ⟨d, hd⟩ : ∃ d, P n = d := ⟨_, rfl⟩
  have ha1 := P_size (-5)
  have hb1 := P_size 4097
  have hd1 := P_one n
  have hg3 := GT_four (-5) ⟨by omega, by omega⟩ (by omega) ⟨#[97, 98, 99]⟩
  have hg4 := GT_four 4097 ⟨by omega, by omega⟩ (by omega) ⟨#[97, 98, 99]⟩
  rw [ha] at ha1 hg3
  rw [hb] at hb1 hg4
  rw [hd] at hd1
  have sz3 : (a ++ (⟨#[97, 98, 99]⟩ : ByteArray)).size ≤ 140737488355328 := by rw [ByteArray.size_append]; show a.size + 3 ≤ _; omega
  have sz4 : (b ++ (⟨#[97, 98, 99]⟩ : ByteArray)).size ≤ 140737488355328 := by rw [ByteArray.size_append]; show b.size + 3 ≤ _; omega
  have sz2 : ((⟨#[255, 255, 255, 255, 255, 255, 255, 255, 255, 255]⟩ : ByteArray) ++ k).size ≤ 140737488355328 := by rw [ByteArray.size_append]; show 10 + k.size ≤ _; omega
  have z3 : a.size + 3 ≤ 9223372036854775807 := by omega
  have z4 : b.size + 3 ≤ 9223372036854775807 := by omega
  have HP := hid hp
  have HA := hid ha
  have HB := hid hb
  have HD := hid hd
  have G1 := hid hg1
  have G2 := hid hg2
  have G3 := hid hg3
  have G4 := hid hg4
  have Z2 := hid sz2
  have Z3 := hid sz3
  have Z4 := hid sz4
  have D1 := hid hd1
  have V3 := hid hv3
  clear hp ha hb hd hg1 hg2 hg3 hg4 sz2 sz3 sz4 hd1 hv3 hk1
  have t0 : ((p.size : Int) == 0) = false := by rw [beq_eq_false_iff_ne]; omega
  go_enter Try.func5, Try.ntmps5
  go_wp2_with fail
  refine (put_p HP hm _).mono ?_
  rintro e w1 ⟨rfl, hb1⟩
  obtain ⟨B, C, hv1, hC, hbB, hsB, hcB, hfB, hv2'⟩ := conv_make w1 p hp1.1
  have hv2 := hv2' (Go.bits .or .u8 (bt p ((p.size - 1 : Nat) : Int)) 128)
  clear hv2'
  have hlast := lastSet_size p (Go.bits .or .u8 (bt p ((p.size - 1 : Nat) : Int)) 128)
  have hG1 := G1.out
  clear G1
  generalize lastSet p (Go.bits .or .u8 (bt p ((p.size - 1 : Nat) : Int)) 128) = q at hv2 hlast hG1
  have z1 : q.size + 1 ≤ 9223372036854775807 := by omega
  have sz1 : (q ++ (⟨#[0]⟩ : ByteArray)).size ≤ 140737488355328 := by rw [ByteArray.size_append]; show q.size + 1 ≤ _; omega
  have G1 := hid hG1
  have Z1 := hid sz1
  clear hG1 sz1 hlast
  have hbw : Below w.heap.size w (B.setCell ⟨w1.heap.size, p.size - 1, none⟩ (.int .u8 (Go.bits .or .u8 (bt p ((p.size - 1 : Nat) : Int)) 128))) :=
    (hb1.trans (hbB.mono hb1.size)).setCell hb1.size _
  go_wp2_with fail
  clear hv1 hv2 hcB hfB z1
  generalize (B.setCell ⟨w1.heap.size, p.size - 1, none⟩ (.int .u8 (Go.bits .or .u8 (bt p ((p.size - 1 : Nat) : Int)) 128))) = W at hbw ⊢
  clear hbB hsB hb1
  refine (get_c G1.out Z1.out _).mono ?_
  rintro e w2 ⟨rfl, hb2⟩
  have hv3 := V3.out w2
  go_wp2_with fail
  clear hv3
  have hbw2 : Below w.heap.size w (w2.alloc (Obj.cells #[Value.int IntKind.u8 c] 5)) := (hbw.trans (hb2.mono hbw.size)).alloc (by have := hbw.size; have := hb2.size; omega) _
  generalize (w2.alloc (Obj.cells #[Value.int IntKind.u8 c] 5)) = W2 at hbw2 ⊢
  clear hbw hb2
  refine (get_c G2.out Z2.out _).mono ?_
  rintro e w3 ⟨rfl, hb3⟩
  go_wp2_with fail
  refine (put_p HA ⟨by omega, by omega⟩ _).mono ?_
  rintro e w4 ⟨rfl, hb4⟩
  go_wp2_with fail
  refine (getText_c G3.out Z3.out _).mono ?_
  rintro e w5 ⟨rfl, hb5⟩
  go_wp2_with fail
  refine (put_p HB ⟨by omega, by omega⟩ _).mono ?_
  rintro e w6 ⟨rfl, hb6⟩
  go_wp2_with fail
  refine (getText_c G4.out Z4.out _).mono ?_
  rintro e w7 ⟨rfl, hb7⟩
  go_wp2_with fail
  refine (put_p HD ⟨by omega, by omega⟩ _).mono ?_
  rintro e w8 ⟨rfl, hb8⟩
  have s3 := hb3.size; have s4 := hb4.size; have s5 := hb5.size; have s6 := hb6.size; have s7 := hb7.size; have s8 := hb8.size; have s2 := hbw2.size
  have hbw3 := (((((hbw2.trans (hb3.mono (by omega))).trans (hb4.mono (by omega))).trans (hb5.mono (by omega))).trans (hb6.mono (by omega))).trans (hb7.mono (by omega))).trans (hb8.mono (by omega))
  have s9 : w.heap.size ≤ w8.heap.size := by omega
  clear hb3 hb4 hb5 hb6 hb7 hb8 s3 s4 s5 s6 s7 s8 s2 hbw2 z3 z4 hk2 ha1 hb1 hp1 t0
  have h1 := D1.out
  clear D1
  by_cases c1 : n < -64
  · have e1 : ((d.size : Int) == 1) = false := by rw [beq_eq_false_iff_ne]; intro h; omega
    have e2 : decide (-64 ≤ n) = false := by simp; omega
    clear h1
    go_wp2_with (first | (go_at_call 12; refine (err_c _ _).mono ?_; rintro e W' ⟨rfl, hb⟩; have hbw4 := hbw3.trans (hb.mono s9); have s10 := Nat.le_trans s9 hb.size; clear hb hbw3 s9; have hbw3 := hbw4; have s9 := s10; clear hbw4 s10) | (go_at_call 9; refine (awake_c _).mono ?_; rintro e W' ⟨rfl, hb⟩; have hbw4 := hbw3.trans (hb.mono s9); clear hb hbw3 s9; have hbw3 := hbw4; clear hbw4))
    go_ret
    exact ⟨rfl, hbw3⟩
  by_cases c2 : n < 64
  · have e1 : ((d.size : Int) == 1) = true := by rw [beq_iff_eq]; omega
    have e2 : decide (-64 ≤ n) = true := by simp; omega
    have e3 : decide (n < 64) = true := by simp; omega
    clear h1
    go_wp2_with (first | (go_at_call 12; refine (err_c _ _).mono ?_; rintro e W' ⟨rfl, hb⟩; have hbw4 := hbw3.trans (hb.mono s9); have s10 := Nat.le_trans s9 hb.size; clear hb hbw3 s9; have hbw3 := hbw4; have s9 := s10; clear hbw4 s10) | (go_at_call 9; refine (awake_c _).mono ?_; rintro e W' ⟨rfl, hb⟩; have hbw4 := hbw3.trans (hb.mono s9); clear hb hbw3 s9; have hbw3 := hbw4; clear hbw4))
    go_ret
    exact ⟨rfl, hbw3⟩
  · have e1 : ((d.size : Int) == 1) = false := by rw [beq_eq_false_iff_ne]; intro h; omega
    have e2 : decide (-64 ≤ n) = true := by simp; omega
    have e3 : decide (n < 64) = false := by simp; omega
    clear h1
    go_wp2_with (first | (go_at_call 12; refine (err_c _ _).mono ?_; rintro e W' ⟨rfl, hb⟩; have hbw4 := hbw3.trans (hb.mono s9); have s10 := Nat.le_trans s9 hb.size; clear hb hbw3 s9; have hbw3 := hbw4; have s9 := s10; clear hbw4 s10) | (go_at_call 9; refine (awake_c _).mono ?_; rintro e W' ⟨rfl, hb⟩; have hbw4 := hbw3.trans (hb.mono s9); clear hb hbw3 s9; have hbw3 := hbw4; clear hbw4))
    go_ret
    exact ⟨rfl, hbw3⟩
theorem i8_wf {x : Int} (h : (Lit.int .i8 x).wf = true) : -128 ≤ x ∧ x < 128 := by
  simp [Lit.wf, IntKind.min, IntKind.max, IntKind.signed, IntKind.bits] at h
  exact ⟨h.1, by omega⟩
end Go.Proofs.Ytnincfdfobaooaa.VForms
