/- Numbers: walked. -/
import Derived.Test.YticbjhicjegfoaaQt0
import Derived.Test.YticbjhicjegfoaaQe
namespace Go.Proofs.Yticbjhicjegfoaa.Q
open Go.RowKit
open Go.Proofs.YticbjhicjegfoaaW.PrintWords

theorem extract_take (src : ByteArray) (i j : Nat) : src.extract i j = bytesOf ((dropB src i).take (j - i)) := by
  unfold bytesOf dropB
  apply ByteArray.ext
  rw [ByteArray.data_extract]
  apply Array.toList_inj.1
  simp [Array.toList_extract, List.extract_eq_take_drop]
/-- What is told of a number. -/
def numT (src : ByteArray) (n : Nat) (ln : Bool) : Tk × Nat := tokL (dropB src n) ln n
theorem digit_iff (c : UInt8) : digitB c = true ↔ 48 ≤ c.toNat ∧ c.toNat ≤ 57 := by unfold digitB; simp
theorem digit_hit {w : World} (c : UInt8) {b : Bool} (hb : digitB c = b) : Calls Try.prog 43 #[.int .u8 (c.toNat : Nat)] w fun e w' => e = .returned (.bool b) ∧ w = w' := by
  have := digit_c (w := w) c
  rwa [hb] at this
theorem letter_hit {w : World} (c : UInt8) {b : Bool} (hb : letterB c = b) : Calls Try.prog 46 #[.int .u8 (c.toNat : Nat)] w fun e w' => e = .returned (.bool b) ∧ w = w' := by
  have := letter_c (w := w) c
  rwa [hb] at this
def tkV (t : Tk × Nat) : Value := .agg #[.int .i64 t.1.kind, .string t.1.text, .int .i64 t.1.num, .int .i64 t.1.at_, .bool t.1.line, .int .i64 t.2]
def headLt : List UInt8 → Bool
  | [] => false
  | d :: _ => letterB d
theorem tok_num {src : ByteArray} {n V K : Nat} {rest : List UInt8} (ln : Bool) (hn : n < src.size) (hd : digitB src[n] = true) (hD : digitsL (dropB src n) 0 0 = (V, K, rest)) :
    tokL (dropB src n) ln n = if Nat.blt 2147483647 V || (Nat.beq src[n].toNat 48 && Nat.blt 1 K) || headLt rest then (⟨6, ⟨#[]⟩, 0, n, ln⟩, n + K) else (⟨1, src.extract n (n + K), (V : Nat), n, ln⟩, n + K) := by
  have h1 : src.extract n (n + K) = bytesOf ((src[n] :: dropB src (n + 1)).take K) := by rw [extract_take, drop_lt hn]; congr 2; omega
  rw [drop_lt hn] at hD ⊢
  unfold tokL
  simp only [hd, if_true, hD, h1]
  cases rest <;> rfl
section
variable {w : World}
set_option maxHeartbeats 3200000 in
set_option maxRecDepth 100000 in
theorem number_c {src : ByteArray} {n : Nat} {ln : Bool} (hs : src.size ≤ 4096) (hn : n < src.size) (hd : digitB src[n] = true) :
    Calls Try.prog 44 #[.string src, .int .i64 (n : Nat), .agg #[.int .i64 0, .string ⟨#[]⟩, .int .i64 0, .int .i64 (n : Nat), .bool ln]] w fun e w' => e = .returned (tkV (tokL (dropB src n) ln n)) ∧ Below w.heap.size w w' := by
  obtain ⟨V, K, rest, hD⟩ : ∃ V K rest, digitsL (dropB src n) 0 0 = (V, K, rest) := ⟨_, _, _, rfl⟩
  have HD := hid hD
  have HD0 := hid hD
  have HH := hid hd
  have hlen := digits_len (dropB src n) 0 0
  have hpos : 1 ≤ K := by
    have h1 : 1 ≤ (digitsL (dropB src n) 0 0).2.1 := by
      rw [drop_lt hn]
      unfold digitsL
      rw [if_pos hd]
      exact digits_le _ _ _
    rw [hD] at h1
    exact h1
  have hbel : Below w.heap.size w ((w.alloc (.cells #[.int .i64 0, .string ⟨#[]⟩, .int .i64 0, .int .i64 (n : Nat), .bool ln] 59)).alloc (.cells #[.int .i64 0, .string ⟨#[]⟩, .int .i64 0, .int .i64 0, .bool false, .int .i64 0] 61)) := ((Below.refl _ _).alloc (Nat.le_refl _) _).alloc (by simp) _
  have HB := hid hbel
  have hnn : (n : Int) < (src.size : Int) := by omega
  clear hD hd hlen hbel
  go_enter Try.func44, Try.ntmps44
  go_wp2_with fail
  go_loop [7, 8] (fun x y => ∃ (j v : Nat), n ≤ j ∧ j ≤ src.size ∧ v ≤ 2147483648 ∧ x = .int .i64 (j : Nat) ∧ y = .int .i64 (v : Nat) ∧ Box (digitsL (dropB src j) v (j - n) = (V, K, rest))) (fun x _ => src.size - (RowKit.intOf x).toNat)
  case atStart => exact ⟨n, 0, Nat.le_refl _, by omega, by omega, rfl, rfl, by rw [Nat.sub_self]; exact HD⟩
  case round =>
    clear HD
    obtain ⟨j, v, hnj, hj, hv, rfl, rfl, HR⟩ := hrel
    have fin : ∀ {rs : List UInt8}, (v, j - n, rs) = (V, K, rest) → v = V ∧ j = n + K ∧ rs = rest := fun e => by
      injection e with e1 e
      injection e with e2 e3
      exact ⟨e1, by omega, e3⟩
    rcases Nat.lt_or_ge j src.size with hlt | hge
    · have hlt' : (j : Int) < (src.size : Int) := by omega
      have hr := HR.out
      rw [drop_lt hlt] at hr
      cases hdg : digitB src[j]
      · have hq : digitsL (src[j] :: dropB src (j + 1)) v (j - n) = (v, j - n, src[j] :: dropB src (j + 1)) := by rw [digitsL, hdg]; rfl
        rw [hq] at hr
        obtain ⟨rfl, hjk, rfl⟩ := fin hr
        have HDG := hid hdg
        have hnj' : (n : Int) ≤ (j : Int) := by omega
        have hj' : (j : Int) ≤ (src.size : Int) := by omega
        clear hr hq fin hdg
        rcases (by omega : 2147483647 < v ∨ v ≤ 2147483647) with hb1 | hb1
        · have b1 : (2147483647 : Int) < (v : Int) := by omega
          have HT := hid (show tokL (dropB src n) ln n = (⟨6, ⟨#[]⟩, 0, n, ln⟩, j) by rw [tok_num ln hn HH.out HD0.out, if_pos (by simp [headLt, hb1]), ← hjk])
          clear hjk HR
          go_wp2_with (first | (go_at_call 43; refine (digit_hit _ HDG.out).mono ?_; rintro e w1 ⟨rfl, rfl⟩) | (go_at_call 46; refine (letter_hit _ HLT.out).mono ?_; rintro e w1 ⟨rfl, rfl⟩))
          exact bodyPost_ret (v := .agg #[.int .i64 6, .string ⟨#[]⟩, .int .i64 0, .int .i64 (n : Nat), .bool ln, .int .i64 (j : Nat)]) (by simp [results, Try.results44, go_sem]) rfl ⟨by rw [HT.out]; rfl, ((Below.refl _ _).alloc (Nat.le_refl _) _).alloc (by simp) _⟩
        · have b1 : ¬ (2147483647 : Int) < (v : Int) := by omega
          have hb1' : ¬ 2147483647 < v := by omega
          by_cases hc48 : src[n].toNat = 48
          · have c48 : (src[n].toNat : Int) = 48 := by omega
            rcases (by omega : 1 < K ∨ K = 1) with hk1 | hk1
            · have k1 : (n : Int) + 1 < (j : Int) := by omega
              have HT := hid (show tokL (dropB src n) ln n = (⟨6, ⟨#[]⟩, 0, n, ln⟩, j) by rw [tok_num ln hn HH.out HD0.out, if_pos (by simp [headLt, hc48, hk1]), ← hjk])
              clear hjk HR
              go_wp2_with (first | (go_at_call 43; refine (digit_hit _ HDG.out).mono ?_; rintro e w1 ⟨rfl, rfl⟩) | (go_at_call 46; refine (letter_hit _ HLT.out).mono ?_; rintro e w1 ⟨rfl, rfl⟩))
              exact bodyPost_ret (v := .agg #[.int .i64 6, .string ⟨#[]⟩, .int .i64 0, .int .i64 (n : Nat), .bool ln, .int .i64 (j : Nat)]) (by simp [results, Try.results44, go_sem]) rfl ⟨by rw [HT.out]; rfl, ((Below.refl _ _).alloc (Nat.le_refl _) _).alloc (by simp) _⟩
            · have k1 : ¬ (n : Int) + 1 < (j : Int) := by omega
              cases hlt2 : letterB src[j]
              · have HLT := hid hlt2
                have HT := hid (show tokL (dropB src n) ln n = (⟨1, src.extract n j, (v : Nat), n, ln⟩, j) by rw [tok_num ln hn HH.out HD0.out, if_neg (by simp [headLt, hb1, hk1, hlt2]), ← hjk])
                clear hjk HR
                go_wp2_with (first | (go_at_call 43; refine (digit_hit _ HDG.out).mono ?_; rintro e w1 ⟨rfl, rfl⟩) | (go_at_call 46; refine (letter_hit _ HLT.out).mono ?_; rintro e w1 ⟨rfl, rfl⟩))
                exact bodyPost_ret (v := .agg #[.int .i64 1, .string (src.extract n j), .int .i64 (v : Nat), .int .i64 (n : Nat), .bool ln, .int .i64 (j : Nat)]) (by simp [results, Try.results44, go_sem]) rfl ⟨by rw [HT.out]; rfl, ((Below.refl _ _).alloc (Nat.le_refl _) _).alloc (by simp) _⟩
              · have HLT := hid hlt2
                have HT := hid (show tokL (dropB src n) ln n = (⟨6, ⟨#[]⟩, 0, n, ln⟩, j) by rw [tok_num ln hn HH.out HD0.out, if_pos (by simp [headLt, hlt2]), ← hjk])
                clear hjk HR
                go_wp2_with (first | (go_at_call 43; refine (digit_hit _ HDG.out).mono ?_; rintro e w1 ⟨rfl, rfl⟩) | (go_at_call 46; refine (letter_hit _ HLT.out).mono ?_; rintro e w1 ⟨rfl, rfl⟩))
                exact bodyPost_ret (v := .agg #[.int .i64 6, .string ⟨#[]⟩, .int .i64 0, .int .i64 (n : Nat), .bool ln, .int .i64 (j : Nat)]) (by simp [results, Try.results44, go_sem]) rfl ⟨by rw [HT.out]; rfl, ((Below.refl _ _).alloc (Nat.le_refl _) _).alloc (by simp) _⟩
          · have c48 : ((src[n].toNat : Int) == 48) = false := by simp; omega
            cases hlt2 : letterB src[j]
            · have HLT := hid hlt2
              have HT := hid (show tokL (dropB src n) ln n = (⟨1, src.extract n j, (v : Nat), n, ln⟩, j) by rw [tok_num ln hn HH.out HD0.out, if_neg (by simp [headLt, hb1, hc48, hlt2]), ← hjk])
              clear hjk HR
              go_wp2_with (first | (go_at_call 43; refine (digit_hit _ HDG.out).mono ?_; rintro e w1 ⟨rfl, rfl⟩) | (go_at_call 46; refine (letter_hit _ HLT.out).mono ?_; rintro e w1 ⟨rfl, rfl⟩))
              exact bodyPost_ret (v := .agg #[.int .i64 1, .string (src.extract n j), .int .i64 (v : Nat), .int .i64 (n : Nat), .bool ln, .int .i64 (j : Nat)]) (by simp [results, Try.results44, go_sem]) rfl ⟨by rw [HT.out]; rfl, ((Below.refl _ _).alloc (Nat.le_refl _) _).alloc (by simp) _⟩
            · have HLT := hid hlt2
              have HT := hid (show tokL (dropB src n) ln n = (⟨6, ⟨#[]⟩, 0, n, ln⟩, j) by rw [tok_num ln hn HH.out HD0.out, if_pos (by simp [headLt, hlt2]), ← hjk])
              clear hjk HR
              go_wp2_with (first | (go_at_call 43; refine (digit_hit _ HDG.out).mono ?_; rintro e w1 ⟨rfl, rfl⟩) | (go_at_call 46; refine (letter_hit _ HLT.out).mono ?_; rintro e w1 ⟨rfl, rfl⟩))
              exact bodyPost_ret (v := .agg #[.int .i64 6, .string ⟨#[]⟩, .int .i64 0, .int .i64 (n : Nat), .bool ln, .int .i64 (j : Nat)]) (by simp [results, Try.results44, go_sem]) rfl ⟨by rw [HT.out]; rfl, ((Below.refl _ _).alloc (Nat.le_refl _) _).alloc (by simp) _⟩
      · have hq : digitsL (src[j] :: dropB src (j + 1)) v (j - n) = digitsL (dropB src (j + 1)) (min (v * 10 + (src[j].toNat - 48)) 2147483648) (j - n + 1) := by rw [digitsL, if_pos hdg]
        rw [hq] at hr
        obtain ⟨d1, d2⟩ := (digit_iff _).1 hdg
        have HR2 : Box (digitsL (dropB src (j + 1)) (min (v * 10 + (src[j].toNat - 48)) 2147483648) (j + 1 - n) = (V, K, rest)) := hid (by rw [show j + 1 - n = j - n + 1 by omega]; exact hr)
        have HDG := hid hdg
        have d1' : (48 : Int) ≤ (src[j].toNat : Int) := by omega
        have d2' : (src[j].toNat : Int) ≤ 57 := by omega
        have hv' : (v : Int) ≤ 2147483648 := by omega
        clear hr hq HR fin hdg
        go_wp2_with (go_at_call 43; refine (digit_hit _ HDG.out).mono ?_; rintro e w1 ⟨rfl, rfl⟩)
        go_round
        case rel => exact ⟨j + 1, min (v * 10 + (src[j].toNat - 48)) 2147483648, by omega, hlt, by omega, by go_num, by congr 1; omega, HR2⟩
        case measure => simp [RowKit.intOf]; omega
    · have hr := HR.out
      rw [drop_ge hge] at hr
      obtain ⟨rfl, hjk, rfl⟩ := fin hr
      have hnj' : (n : Int) ≤ (j : Int) := by omega
      have hj' : (j : Int) ≤ (src.size : Int) := by omega
      have hlt' : ¬ (j : Int) < (src.size : Int) := by omega
      clear hr fin
      rcases (by omega : 2147483647 < v ∨ v ≤ 2147483647) with hb1 | hb1
      · have b1 : (2147483647 : Int) < (v : Int) := by omega
        have HT := hid (show tokL (dropB src n) ln n = (⟨6, ⟨#[]⟩, 0, n, ln⟩, j) by rw [tok_num ln hn HH.out HD0.out, if_pos (by simp [headLt, hb1]), ← hjk])
        clear hjk HR
        go_wp2_with fail
        exact bodyPost_ret (v := .agg #[.int .i64 6, .string ⟨#[]⟩, .int .i64 0, .int .i64 (n : Nat), .bool ln, .int .i64 (j : Nat)]) (by simp [results, Try.results44, go_sem]) rfl ⟨by rw [HT.out]; rfl, ((Below.refl _ _).alloc (Nat.le_refl _) _).alloc (by simp) _⟩
      · have b1 : ¬ (2147483647 : Int) < (v : Int) := by omega
        have hb1' : ¬ 2147483647 < v := by omega
        by_cases hc48 : src[n].toNat = 48
        · have c48 : (src[n].toNat : Int) = 48 := by omega
          rcases (by omega : 1 < K ∨ K = 1) with hk1 | hk1
          · have k1 : (n : Int) + 1 < (j : Int) := by omega
            have HT := hid (show tokL (dropB src n) ln n = (⟨6, ⟨#[]⟩, 0, n, ln⟩, j) by rw [tok_num ln hn HH.out HD0.out, if_pos (by simp [headLt, hc48, hk1]), ← hjk])
            clear hjk HR
            go_wp2_with fail
            exact bodyPost_ret (v := .agg #[.int .i64 6, .string ⟨#[]⟩, .int .i64 0, .int .i64 (n : Nat), .bool ln, .int .i64 (j : Nat)]) (by simp [results, Try.results44, go_sem]) rfl ⟨by rw [HT.out]; rfl, ((Below.refl _ _).alloc (Nat.le_refl _) _).alloc (by simp) _⟩
          · have k1 : ¬ (n : Int) + 1 < (j : Int) := by omega
            have HT := hid (show tokL (dropB src n) ln n = (⟨1, src.extract n j, (v : Nat), n, ln⟩, j) by rw [tok_num ln hn HH.out HD0.out, if_neg (by simp [headLt, hb1, hk1]), ← hjk])
            clear hjk HR
            go_wp2_with fail
            exact bodyPost_ret (v := .agg #[.int .i64 1, .string (src.extract n j), .int .i64 (v : Nat), .int .i64 (n : Nat), .bool ln, .int .i64 (j : Nat)]) (by simp [results, Try.results44, go_sem]) rfl ⟨by rw [HT.out]; rfl, ((Below.refl _ _).alloc (Nat.le_refl _) _).alloc (by simp) _⟩
        · have c48 : ((src[n].toNat : Int) == 48) = false := by simp; omega
          have HT := hid (show tokL (dropB src n) ln n = (⟨1, src.extract n j, (v : Nat), n, ln⟩, j) by rw [tok_num ln hn HH.out HD0.out, if_neg (by simp [headLt, hb1, hc48]), ← hjk])
          clear hjk HR
          go_wp2_with fail
          exact bodyPost_ret (v := .agg #[.int .i64 1, .string (src.extract n j), .int .i64 (v : Nat), .int .i64 (n : Nat), .bool ln, .int .i64 (j : Nat)]) (by simp [results, Try.results44, go_sem]) rfl ⟨by rw [HT.out]; rfl, ((Below.refl _ _).alloc (Nat.le_refl _) _).alloc (by simp) _⟩
end
end Go.Proofs.Yticbjhicjegfoaa.Q
