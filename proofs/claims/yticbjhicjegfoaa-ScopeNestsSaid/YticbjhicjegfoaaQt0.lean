/- Blanks, digits, letters: walked. -/
import Derived.Test.YticbjhicjegfoaaQc
namespace Go.Proofs.Yticbjhicjegfoaa.Q
open Go.RowKit
open Go.Proofs.YticbjhicjegfoaaW.PrintWords

def dropB (src : ByteArray) (n : Nat) : List UInt8 := src.data.toList.drop n
theorem drop_lt {src : ByteArray} {j : Nat} (h : j < src.size) : dropB src j = src[j] :: dropB src (j + 1) := by
  unfold dropB
  exact List.drop_eq_getElem_cons (by simpa using h)
theorem drop_ge {src : ByteArray} {j : Nat} (h : src.size ≤ j) : dropB src j = [] := by
  unfold dropB
  exact List.drop_of_length_le (by simpa using h)
theorem beq_nat {a b : Nat} : Nat.beq a b = decide (a = b) := by
  rw [Bool.eq_iff_iff]; simp [Nat.beq_eq]
section
variable {w : World}
set_option maxHeartbeats 400000 in
set_option maxRecDepth 100000 in
theorem digit_c (c : UInt8) : Calls Try.prog 43 #[.int .u8 (c.toNat : Nat)] w fun e w' => e = .returned (.bool (digitB c)) ∧ w = w' := by
  have hc : c.toNat < 256 := c.toNat_lt
  have hd : digitB c = (decide (48 ≤ c.toNat) && decide (c.toNat ≤ 57)) := by unfold digitB; rw [Bool.eq_iff_iff]; simp
  by_cases h1 : 48 ≤ c.toNat
  · have h1' : (48 : Int) ≤ (c.toNat : Int) := by omega
    have HD := hid (show digitB c = decide ((c.toNat : Int) ≤ 57) by rw [hd, Bool.eq_iff_iff]; simp [h1]; omega)
    clear hd
    go_enter Try.func43, Try.ntmps43
    go_wp2_with fail
    go_ret
    exact ⟨ret_bool HD.out, rfl⟩
  · have h1' : (c.toNat : Int) < 48 := by omega
    have HD := hid (show digitB c = false by rw [hd]; simp [h1])
    clear hd
    go_enter Try.func43, Try.ntmps43
    go_wp2_with fail
    go_ret
    exact ⟨ret_bool HD.out, rfl⟩
set_option maxHeartbeats 800000 in
set_option maxRecDepth 100000 in
theorem letter_c (c : UInt8) : Calls Try.prog 46 #[.int .u8 (c.toNat : Nat)] w fun e w' => e = .returned (.bool (letterB c)) ∧ w = w' := by
  have hc : c.toNat < 256 := c.toNat_lt
  have hd : letterB c = ((decide (97 ≤ c.toNat) && decide (c.toNat ≤ 122)) || (decide (65 ≤ c.toNat) && decide (c.toNat ≤ 90)) || decide (c.toNat = 95) || decide (c.toNat = 36)) := by
    unfold letterB; rw [Bool.eq_iff_iff]; simp
  have HD := hid hd
  clear hd
  go_enter Try.func46, Try.ntmps46
  go_wp2_with fail
  all_goals
    go_ret
    refine ⟨?_, rfl⟩
    refine ret_bool ?_
    rw [HD.out, Bool.eq_iff_iff]
    simp
    omega
theorem B10 {c : UInt8} (h : c.toNat = 10) (r : List UInt8) (ln : Bool) (n : Nat) : blanksL false (c :: r) ln n = blanksL false r true (n + 1) := by simp [blanksL, h]
theorem Bsp {c : UInt8} (h : c.toNat = 9 ∨ c.toNat = 13 ∨ c.toNat = 32) (r : List UInt8) (ln : Bool) (n : Nat) : blanksL false (c :: r) ln n = blanksL false r ln (n + 1) := by
  have : c.toNat ≠ 10 := by omega
  rcases h with h | h | h <;> simp [blanksL, beq_nat, h]
theorem Bcm {c d : UInt8} (h : c.toNat = 47) (hd : d.toNat = 47) (r : List UInt8) (ln : Bool) (n : Nat) : blanksL false (c :: d :: r) ln n = blanksL true (c :: d :: r) ln n := by simp [blanksL, beq_nat, h, hd]
theorem Bno {c : UInt8} (h : c.toNat ≠ 10 ∧ c.toNat ≠ 9 ∧ c.toNat ≠ 13 ∧ c.toNat ≠ 32) (r : List UInt8) (hr : c.toNat = 47 → ∀ d t, r = d :: t → d.toNat ≠ 47) (ln : Bool) (n : Nat) : blanksL false (c :: r) ln n = (c :: r, ln, n) := by
  obtain ⟨h1, h2, h3, h4⟩ := h
  by_cases h5 : c.toNat = 47
  · cases r with
    | nil => simp [blanksL, beq_nat, h5]
    | cons d t =>
      have := hr h5 d t rfl
      simp [blanksL, beq_nat, h5, this]
  · simp [blanksL, beq_nat, h1, h2, h3, h4, h5]
theorem Bin {c : UInt8} (h : c.toNat ≠ 10) (r : List UInt8) (ln : Bool) (n : Nat) : blanksL true (c :: r) ln n = blanksL true r ln (n + 1) := by simp [blanksL, beq_nat, h]
theorem Bout {c : UInt8} (h : c.toNat = 10) (r : List UInt8) (ln : Bool) (n : Nat) : blanksL true (c :: r) ln n = blanksL false (c :: r) ln n := by simp [blanksL, h]
set_option maxHeartbeats 3200000 in
set_option maxRecDepth 100000 in
theorem blanks_c {src : ByteArray} {n : Nat} (hs : src.size ≤ 4096) (hn : n ≤ src.size) {R : List UInt8 × Bool × Nat} (hR : blanksL false (dropB src n) false n = R) :
    Calls Try.prog 42 #[.string src, .int .i64 (n : Nat)] w fun e w' => e = .returned (.tuple #[.int .i64 (R.2.2 : Nat), .bool R.2.1]) ∧ w = w' := by
  have HR := hid hR
  clear hR
  go_enter Try.func42, Try.ntmps42
  go_wp2_with fail
  go_loop [1, 6] (fun x y => ∃ (j : Nat) (ln : Bool), j ≤ src.size ∧ x = .int .i64 (j : Nat) ∧ y = .bool ln ∧ Box (blanksL false (dropB src j) ln j = R)) (fun x _ => src.size - (RowKit.intOf x).toNat)
  case atStart => exact ⟨n, false, hn, rfl, rfl, HR⟩
  case round =>
    clear HR
    obtain ⟨j, ln, hj, rfl, rfl, HR⟩ := hrel
    rcases Nat.lt_or_ge j src.size with hlt | hge
    · have hlt' : (j : Int) < (src.size : Int) := by omega
      have hr := HR.out
      have hd := drop_lt hlt
      rw [hd] at hr
      have hcc : ∀ h : j < src.size, src[j] = src[j] := fun _ => rfl
      obtain ⟨c, hc⟩ : ∃ c, c = src[j] := ⟨_, rfl⟩
      rw [← hc] at hr
      have hc8 : c.toNat < 256 := c.toNat_lt
      by_cases h10 : c.toNat = 10
      · rw [B10 h10] at hr
        have HR2 := hid hr
        have q0 : (src[j].toNat : Int) = 10 := by rw [← hc]; omega
        clear hr hc h10 hd HR hcc
        go_wp2_with fail
        go_round
        case rel => exact ⟨j + 1, true, hlt, by go_num, rfl, HR2⟩
        case measure => simp [RowKit.intOf]; omega
      · by_cases hsp : c.toNat = 9 ∨ c.toNat = 13 ∨ c.toNat = 32
        · rw [Bsp hsp] at hr
          have HR2 := hid hr
          clear hr hd HR hcc
          rcases hsp with h | h | h
          · have q0 : (src[j].toNat : Int) = 9 := by rw [← hc]; omega
            clear hc h h10
            go_wp2_with fail
            go_round
            case rel => exact ⟨j + 1, ln, hlt, by go_num, rfl, HR2⟩
            case measure => simp [RowKit.intOf]; omega
          · have q0 : (src[j].toNat : Int) = 13 := by rw [← hc]; omega
            clear hc h h10
            go_wp2_with fail
            go_round
            case rel => exact ⟨j + 1, ln, hlt, by go_num, rfl, HR2⟩
            case measure => simp [RowKit.intOf]; omega
          · have q0 : (src[j].toNat : Int) = 32 := by rw [← hc]; omega
            clear hc h h10
            go_wp2_with fail
            go_round
            case rel => exact ⟨j + 1, ln, hlt, by go_num, rfl, HR2⟩
            case measure => simp [RowKit.intOf]; omega
        · have q10 : ¬ (src[j].toNat : Int) = 10 := by rw [← hc]; omega
          have q9 : ¬ (src[j].toNat : Int) = 9 := by rw [← hc]; omega
          have q13 : ¬ (src[j].toNat : Int) = 13 := by rw [← hc]; omega
          have q32 : ¬ (src[j].toNat : Int) = 32 := by rw [← hc]; omega
          by_cases h47 : c.toNat = 47
          · have q47 : (src[j].toNat : Int) = 47 := by rw [← hc]; omega
            rcases Nat.lt_or_ge (j + 1) src.size with hl2 | hg2
            · have hl2' : (j : Int) + 1 < (src.size : Int) := by omega
              have hd2 := drop_lt hl2
              obtain ⟨d, hdd⟩ : ∃ d, d = src[j + 1] := ⟨_, rfl⟩
              rw [hd2, ← hdd] at hr
              by_cases d47 : d.toNat = 47
              · rw [Bcm h47 d47] at hr
                have qd : (src[j + 1].toNat : Int) = 47 := by rw [← hdd]; omega
                have HR2 : Box (blanksL true (dropB src j) ln j = R) := hid (by rw [hd, hd2, ← hc, ← hdd]; exact hr)
                clear hr hd hd2 hc hdd HR hcc h10 hsp h47 d47 q10 q9 q13 q32
                go_wp2_with fail
                go_loop [1] (fun x => ∃ i : Nat, j ≤ i ∧ i ≤ src.size ∧ x = .int .i64 (i : Nat) ∧ Box (blanksL true (dropB src i) ln i = R)) (fun x => src.size - (RowKit.intOf x).toNat)
                case atStart => exact ⟨j, Nat.le_refl _, hj, rfl, HR2⟩
                case round =>
                  clear HR2
                  obtain ⟨i, hji, his, rfl, HR⟩ := hrel
                  rcases Nat.lt_or_ge i src.size with hil | hig
                  · have hil' : (i : Int) < (src.size : Int) := by omega
                    have hr := HR.out
                    have he := drop_lt hil
                    by_cases e10 : src[i].toNat = 10
                    · rw [he, Bout e10, ← he] at hr
                      have HR2 := hid hr
                      have p10 : (src[i].toNat : Int) = 10 := by omega
                      have hne : i ≠ j := by
                        rintro rfl
                        omega
                      have hne' : j < i := by omega
                      clear hr he e10 HR hne q47 qd
                      go_wp2_with fail
                      go_round
                      case rel => exact ⟨i, ln, his, rfl, rfl, HR2⟩
                      case measure => simp [RowKit.intOf]; omega
                    · rw [he, Bin e10] at hr
                      have HR2 := hid hr
                      have p10 : ¬ (src[i].toNat : Int) = 10 := by omega
                      have p10' : ((src[i].toNat : Int) != 10) = true := by simpa using p10
                      clear hr he e10 HR q47 qd
                      go_wp2_with fail
                      go_round
                      case rel => exact ⟨i + 1, by omega, hil, by go_num, HR2⟩
                      case measure => simp [RowKit.intOf]; omega
                  · obtain rfl : i = src.size := by omega
                    have hr := HR.out
                    rw [drop_ge (Nat.le_refl _)] at hr
                    have HR2 : Box (blanksL false (dropB src src.size) ln src.size = R) := hid (by rw [drop_ge (Nat.le_refl _)]; exact hr)
                    clear hr HR q47 qd
                    go_wp2_with fail
                    go_round
                    case rel => exact ⟨src.size, ln, Nat.le_refl _, rfl, rfl, HR2⟩
                    case measure => simp [RowKit.intOf]; omega
              · have hno := Bno (c := c) ⟨h10, by omega, by omega, by omega⟩ (d :: dropB src (j + 1 + 1)) (fun _ d' t e => by injection e with e1 _; rw [← e1]; exact d47) ln j
                rw [hno] at hr
                have qd : ¬ (src[j + 1].toNat : Int) = 47 := by rw [← hdd]; omega
                have HE := hid hr
                clear hr hd hd2 hc hdd HR hcc h10 hsp h47 d47 hno
                go_wp2_with fail
                go_ret2
                have he := HE.out
                subst he
                exact ⟨rfl, rfl⟩
            · have hg2' : ¬ (j : Int) + 1 < (src.size : Int) := by omega
              have hno := Bno (c := c) ⟨h10, by omega, by omega, by omega⟩ (dropB src (j + 1)) (fun _ d' t e => by rw [drop_ge hg2] at e; cases e) ln j
              rw [hno] at hr
              have HE := hid hr
              clear hr hd hc HR hcc h10 hsp h47 hno
              go_wp2_with fail
              go_ret2
              have he := HE.out
              subst he
              exact ⟨rfl, rfl⟩
          · have q47 : ¬ (src[j].toNat : Int) = 47 := by rw [← hc]; omega
            have hno := Bno (c := c) ⟨h10, by omega, by omega, by omega⟩ (dropB src (j + 1)) (fun e => absurd e h47) ln j
            rw [hno] at hr
            have HE := hid hr
            have p10 : ((src[j].toNat : Int) == 10) = false := by simpa using q10
            have p9 : ((src[j].toNat : Int) == 9) = false := by simpa using q9
            have p13 : ((src[j].toNat : Int) == 13) = false := by simpa using q13
            have p32 : ((src[j].toNat : Int) == 32) = false := by simpa using q32
            have p47 : ((src[j].toNat : Int) == 47) = false := by simpa using q47
            clear hr hd hc HR hcc h10 hsp h47 hno
            go_wp2_with fail
            go_ret2
            have he := HE.out
            subst he
            exact ⟨rfl, rfl⟩
    · obtain rfl : j = src.size := by omega
      have hr := HR.out
      rw [drop_ge (Nat.le_refl _)] at hr
      have HE := hid (show ([], ln, src.size) = R from hr)
      clear HR hr
      go_wp2_with fail
      go_ret2
      have he := HE.out
      subst he
      exact ⟨rfl, rfl⟩
end
end Go.Proofs.Yticbjhicjegfoaa.Q
