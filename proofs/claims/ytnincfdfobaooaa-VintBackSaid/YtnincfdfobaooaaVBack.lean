/- The law VintBack answers true, whatever the input: its walk. -/
import Derived.Test.YtnincfdfobaooaaVC
namespace Go.Proofs.Ytnincfdfobaooaa.VBack
open Go.RowKit Go.Proofs.Ytnincfdfobaooaa.VM Go.Proofs.Ytnincfdfobaooaa.VC Go.Proofs.Ytnincfdfobaooaa.Ov

theorem G_zero (s : ByteArray) (h : (R s) = (0, 0, 3)) : G s 0 = (0, 0, 3) := by
  unfold G
  rw [if_neg (by omega)]
  simp only [Int.toNat_zero, ByteArray.extract_zero_size, h]
  rfl
theorem GT_zero (s : ByteArray) (h : (T s) = (⟨#[]⟩, 0, 3)) : GT s 0 = (⟨#[]⟩, 0, 3) := by
  unfold GT
  rw [if_neg (by omega)]
  simp only [Int.toNat_zero, ByteArray.extract_zero_size, h]
  rfl
theorem G_behind (s : ByteArray) : G s ((s.size : Int) + 1) = (0, 0, 1) := by
  unfold G; rw [if_pos (.inr (by omega))]
theorem G_ahead (s : ByteArray) : G s (-1) = (0, 0, 1) := by
  unfold G; rw [if_pos (.inl (by omega))]

theorem extract_all (s : ByteArray) (c : Nat) (h : s.size ≤ c) : s.extract 0 c = s := by
  have e : s.extract 0 c = s.extract 0 s.size := by
    apply ByteArray.ext_getElem
    · rw [ByteArray.size_extract, ByteArray.size_extract]; omega
    · intro i h1 h2
      rw [ByteArray.getElem_extract, ByteArray.getElem_extract]
  rw [e, ByteArray.extract_zero_size]

/-- A text that was cut: more is needed. -/
theorem T_cut (t : ByteArray) (ht : t.size ≤ 4096) (c : Nat) (hc : c < (TX t).size) : T ((TX t).extract 0 c) = (⟨#[]⟩, 0, 3) := by
  have hn : I64 (t.size : Int) := ⟨by omega, by omega⟩
  have h2 : (TX t).size = (P (t.size : Int)).size + t.size := by unfold TX; rw [ByteArray.size_append]
  have hp := P_size (t.size : Int)
  by_cases h : c < (P (t.size : Int)).size
  · have e : (TX t).extract 0 c = (P (t.size : Int)).extract 0 c := by
      unfold TX
      rw [ByteArray.extract_append, ByteArray.extract_eq_empty_iff (b := t).2 (by omega), ByteArray.append_empty]
    unfold T
    rw [e, R_cut _ hn c h]
    rfl
  · have e : (TX t).extract 0 c = P (t.size : Int) ++ t.extract 0 (c - (P (t.size : Int)).size) := by
      unfold TX
      rw [ByteArray.extract_append, Nat.zero_sub]
      congr 1
      exact extract_all _ _ (by omega)
    have hs : ((TX t).extract 0 c).size = c := by rw [ByteArray.size_extract]; omega
    unfold T
    rw [hs, e, R_put _ hn]
    simp only [if_true]
    rw [if_neg (by omega), if_pos (by omega)]

theorem put_p {n : Int} {p : ByteArray} (h : Box (P n = p)) (hn : I64 n) (w : World) : Calls Try.prog 10 #[.int .i64 n] w fun e w' => e = .returned (.string p) ∧ Below w.heap.size w w' := by
  rw [← h.out]; exact put_c n hn w
theorem text_q {t q : ByteArray} (h : Box (TX t = q)) (ht : t.size ≤ 140737488355328) (w : World) : Calls Try.prog 17 #[.string t] w fun e w' => e = .returned (.string q) ∧ Below w.heap.size w w' := by
  rw [← h.out]; exact text_c t ht w

set_option maxHeartbeats 1000000 in
set_option maxRecDepth 100000 in
theorem back_calls (n : Int) (t a b : ByteArray) (c : Int) (w : World) (hn : I64 n) (ht : t.size ≤ 140737488351232) (ha : a.size ≤ 140737488351232) (hb : b.size ≤ 140737488351232) (hc0 : 0 ≤ c) (hc : c < 256) :
    Calls Try.prog 7 #[.int .i64 n, .string t, .string a, .string b, .int .u8 c] w fun e w' => e = .returned (.bool true) ∧ Below w.heap.size w w' := by
  by_cases h1 : (200 : Int) < (t.size : Int)
  · go_enter Try.func7, Try.ntmps7
    go_wp2_with (go_at_call 9; refine (awake_c _).mono ?_; rintro e w' ⟨rfl, hb⟩)
    go_ret
    exact ⟨rfl, hb⟩
  by_cases h2 : (40 : Int) < (a.size : Int)
  · go_enter Try.func7, Try.ntmps7
    go_wp2_with (go_at_call 9; refine (awake_c _).mono ?_; rintro e w' ⟨rfl, hb⟩)
    go_ret
    exact ⟨rfl, hb⟩
  by_cases h3 : (40 : Int) < (b.size : Int)
  · go_enter Try.func7, Try.ntmps7
    go_wp2_with (go_at_call 9; refine (awake_c _).mono ?_; rintro e w' ⟨rfl, hb⟩)
    go_ret
    exact ⟨rfl, hb⟩
  obtain ⟨p, hp⟩ : ∃ p, P n = p := ⟨_, rfl⟩
  obtain ⟨q, hq⟩ : ∃ q, TX t = q := ⟨_, rfl⟩
  obtain ⟨l, hl⟩ : ∃ l, P (t.size : Int) = l := ⟨_, rfl⟩
  have hp1 := P_size n
  have hl1 := P_size (t.size : Int)
  have hq1 : (TX t).size ≤ l.size + t.size ∧ l.size + t.size ≤ (TX t).size := by rw [← hl]; unfold TX; rw [ByteArray.size_append]; omega
  have hG := G_put a n hn b
  have hT := GT_text a t b (by omega)
  have m1 : 0 ≤ c % (p.size : Int) := Int.emod_nonneg _ (by rw [← hp]; omega)
  have m2 : c % (p.size : Int) < p.size := Int.emod_lt_of_pos _ (by rw [← hp]; omega)
  have m3 : 0 ≤ c % (q.size : Int) := Int.emod_nonneg _ (by rw [← hq]; rw [hl] at hl1; omega)
  have m4 : c % (q.size : Int) < q.size := Int.emod_lt_of_pos _ (by rw [← hq]; rw [hl] at hl1; omega)
  have hcp := G_zero _ (R_cut n hn (c % (p.size : Int)).toNat (by rw [hp]; omega))
  have hcq := GT_zero _ (T_cut t (by omega) (c % (q.size : Int)).toNat (by rw [hq]; omega))
  have hbe := G_behind p
  have hah := G_ahead p
  rw [hp] at hp1 hG hcp
  rw [hl] at hl1
  rw [hq] at hq1 hT hcq
  have HP := hid hp
  have HQ := hid hq
  have HL := hid hl
  have HG := hid hG
  have HT := hid hT
  have HCP := hid hcp
  have HCQ := hid hcq
  have HBE := hid hbe
  have HAH := hid hah
  clear hp hq hl hG hT hcp hcq hbe hah
  have x1 : (p.extract 0 (c % (p.size : Int)).toNat).size ≤ 140737488355328 := by rw [ByteArray.size_extract]; omega
  have x2 : (q.extract 0 (c % (q.size : Int)).toNat).size ≤ 140737488355328 := by rw [ByteArray.size_extract]; omega
  have hn64 : I64 (t.size : Int) := ⟨by omega, by omega⟩
  have hs1 : (a ++ p ++ b).size ≤ 140737488355328 := by simp only [ByteArray.size_append]; omega
  have hs2 : (a ++ q ++ b).size ≤ 140737488355328 := by simp only [ByteArray.size_append]; omega
  have z1 : a.size + p.size ≤ 9223372036854775807 := by omega
  have z2 : (a ++ p).size + b.size ≤ 9223372036854775807 := by simp only [ByteArray.size_append]; omega
  have z3 : a.size + q.size ≤ 9223372036854775807 := by omega
  have z4 : (a ++ q).size + b.size ≤ 9223372036854775807 := by simp only [ByteArray.size_append]; omega
  have M1 := hid m1
  have M2 := hid m2
  have M3 := hid m3
  have M4 := hid m4
  have X1 := hid x1
  have X2 := hid x2
  have S1 := hid hs1
  have S2 := hid hs2
  clear m1 m2 m3 m4 x1 x2 hs1 hs2
  go_enter Try.func7, Try.ntmps7
  go_wp2_with fail
  refine (put_p HP hn _).mono ?_
  rintro e w1 ⟨rfl, hb1⟩
  go_wp2_with fail
  refine (text_q HQ (by omega) _).mono ?_
  rintro e w2 ⟨rfl, hb2⟩
  go_wp2_with fail
  refine (get_c HG.out S1.out _).mono ?_
  rintro e w3 ⟨rfl, hb3⟩
  go_wp2_with fail
  refine (getText_c HT.out S2.out _).mono ?_
  rintro e w4 ⟨rfl, hb4⟩
  go_wp2_with fail
  refine (put_p HL hn64 _).mono ?_
  rintro e w5 ⟨rfl, hb5⟩
  have t1 : ((q.size : Int) == (l.size : Int) + (t.size : Int)) = true := by simp; omega
  have t2 : ((q.size : Int) != (l.size : Int) + (t.size : Int)) = false := by simp; omega
  go_wp2_with fail
  refine (err_c _ _).mono ?_
  rintro e w6 ⟨rfl, hb6⟩
  go_wp2_with fail
  refine (err_c _ _).mono ?_
  rintro e w7 ⟨rfl, hb7⟩
  clear t1 t2 z1 z2 z3 z4
  have m1 := M1.out
  have m2 := M2.out
  go_wp2_with fail
  clear m1 m2
  refine (get_c HCP.out X1.out _).mono ?_
  rintro e w8 ⟨rfl, hb8⟩
  have m3 := M3.out
  have m4 := M4.out
  go_wp2_with fail
  clear m3 m4
  refine (getText_c HCQ.out X2.out _).mono ?_
  rintro e w9 ⟨rfl, hb9⟩
  go_wp2_with fail
  refine (get_c HBE.out (by omega) _).mono ?_
  rintro e w10 ⟨rfl, hb10⟩
  go_wp2_with fail
  refine (get_c HAH.out (by omega) _).mono ?_
  rintro e w11 ⟨rfl, hb11⟩
  go_wp2_with fail
  refine (err_c _ _).mono ?_
  rintro e w12 ⟨rfl, hb12⟩
  go_wp2_with fail
  refine (err_c _ _).mono ?_
  rintro e w13 ⟨rfl, hb13⟩
  go_wp2_with fail
  refine (err_c _ _).mono ?_
  rintro e w14 ⟨rfl, hb14⟩
  go_wp2_with fail
  refine (err_c _ _).mono ?_
  rintro e w15 ⟨rfl, hb15⟩
  go_wp2_with fail
  refine (awake_c _).mono ?_
  rintro e w16 ⟨rfl, hb16⟩
  go_wp2_with fail
  go_ret
  refine ⟨rfl, ?_⟩
  have s1 := hb1.size; have s2 := hb2.size; have s3 := hb3.size; have s4 := hb4.size; have s5 := hb5.size; have s6 := hb6.size; have s7 := hb7.size; have s8 := hb8.size
  have s9 := hb9.size; have s10 := hb10.size; have s11 := hb11.size; have s12 := hb12.size; have s13 := hb13.size; have s14 := hb14.size; have s15 := hb15.size
  exact ((((((((((((((hb1.trans (hb2.mono (by omega))).trans (hb3.mono (by omega))).trans (hb4.mono (by omega))).trans (hb5.mono (by omega))).trans (hb6.mono (by omega))).trans (hb7.mono (by omega))).trans (hb8.mono (by omega))).trans (hb9.mono (by omega))).trans (hb10.mono (by omega))).trans (hb11.mono (by omega))).trans (hb12.mono (by omega))).trans (hb13.mono (by omega))).trans (hb14.mono (by omega))).trans (hb15.mono (by omega))).trans (hb16.mono (by omega))
end Go.Proofs.Ytnincfdfobaooaa.VBack
