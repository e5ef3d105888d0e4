/- What a proof further on needs (part d). -/
import Derived.Test.YtibepkblgliooaaKa
import Derived.Test.YtibepkblgliooaaKc
set_option linter.unusedVariables false
namespace Go.Proofs.Ytibepkblgliooaa.Q
open Go.RowKit
open Go.Proofs.YtibepkblgliooaaW.PrintWords
def dropB (src : ByteArray) (n : Nat) : List UInt8 := src.data.toList.drop n
theorem drop_lt {src : ByteArray} {j : Nat} (h : j < src.size) : dropB src j = src[j] :: dropB src (j + 1) := by
  unfold dropB
  exact List.drop_eq_getElem_cons (by simpa using h)
theorem drop_ge {src : ByteArray} {j : Nat} (h : src.size ≤ j) : dropB src j = [] := by
  unfold dropB
  exact List.drop_of_length_le (by simpa using h)
theorem beq_nat {a b : Nat} : Nat.beq a b = decide (a = b) := by
  rw [Bool.eq_iff_iff]; simp [Nat.beq_eq]
section
variable {w : World}
set_option maxHeartbeats 400000 in
set_option maxRecDepth 100000 in
theorem digit_c (c : UInt8) : Calls Try.prog 29 #[.int .u8 (c.toNat : Nat)] w fun e w' => e = .returned (.bool (digitB c)) ∧ w = w' := by
  have hc : c.toNat < 256 := c.toNat_lt
  have hd : digitB c = (decide (48 ≤ c.toNat) && decide (c.toNat ≤ 57)) := by unfold digitB; rw [Bool.eq_iff_iff]; simp
  by_cases h1 : 48 ≤ c.toNat
  · have h1' : (48 : Int) ≤ (c.toNat : Int) := by omega
    have HD := hid (show digitB c = decide ((c.toNat : Int) ≤ 57) by rw [hd, Bool.eq_iff_iff]; simp [h1]; omega)
    clear hd
    go_enter Try.func29, Try.ntmps29
    go_wp2_with fail
    go_ret
    exact ⟨ret_bool HD.out, rfl⟩
  · have h1' : (c.toNat : Int) < 48 := by omega
    have HD := hid (show digitB c = false by rw [hd]; simp [h1])
    clear hd
    go_enter Try.func29, Try.ntmps29
    go_wp2_with fail
    go_ret
    exact ⟨ret_bool HD.out, rfl⟩
set_option maxHeartbeats 800000 in
set_option maxRecDepth 100000 in
theorem letter_c (c : UInt8) : Calls Try.prog 32 #[.int .u8 (c.toNat : Nat)] w fun e w' => e = .returned (.bool (letterB c)) ∧ w = w' := by
  have hc : c.toNat < 256 := c.toNat_lt
  have hd : letterB c = ((decide (97 ≤ c.toNat) && decide (c.toNat ≤ 122)) || (decide (65 ≤ c.toNat) && decide (c.toNat ≤ 90)) || decide (c.toNat = 95) || decide (c.toNat = 36)) := by
    unfold letterB; rw [Bool.eq_iff_iff]; simp
  have HD := hid hd
  clear hd
  go_enter Try.func32, Try.ntmps32
  go_wp2_with fail
  all_goals
    go_ret
    refine ⟨?_, rfl⟩
    refine ret_bool ?_
    rw [HD.out, Bool.eq_iff_iff]
    simp
    omega
theorem B10 {c : UInt8} (h : c.toNat = 10) (r : List UInt8) (ln : Bool) (n : Nat) : blanksL false (c :: r) ln n = blanksL false r true (n + 1) := by simp [blanksL, h]
theorem Bsp {c : UInt8} (h : c.toNat = 9 ∨ c.toNat = 13 ∨ c.toNat = 32) (r : List UInt8) (ln : Bool) (n : Nat) : blanksL false (c :: r) ln n = blanksL false r ln (n + 1) := by
  have : c.toNat ≠ 10 := by omega
  rcases h with h | h | h <;> simp [blanksL, beq_nat, h]
theorem Bcm {c d : UInt8} (h : c.toNat = 47) (hd : d.toNat = 47) (r : List UInt8) (ln : Bool) (n : Nat) : blanksL false (c :: d :: r) ln n = blanksL true (c :: d :: r) ln n := by simp [blanksL, beq_nat, h, hd]
theorem Bno {c : UInt8} (h : c.toNat ≠ 10 ∧ c.toNat ≠ 9 ∧ c.toNat ≠ 13 ∧ c.toNat ≠ 32) (r : List UInt8) (hr : c.toNat = 47 → ∀ d t, r = d :: t → d.toNat ≠ 47) (ln : Bool) (n : Nat) : blanksL false (c :: r) ln n = (c :: r, ln, n) := by
  obtain ⟨h1, h2, h3, h4⟩ := h
  by_cases h5 : c.toNat = 47
  · cases r with
    | nil => simp [blanksL, beq_nat, h5]
    | cons d t =>
      have := hr h5 d t rfl
      simp [blanksL, beq_nat, h5, this]
  · simp [blanksL, beq_nat, h1, h2, h3, h4, h5]
theorem Bin {c : UInt8} (h : c.toNat ≠ 10) (r : List UInt8) (ln : Bool) (n : Nat) : blanksL true (c :: r) ln n = blanksL true r ln (n + 1) := by simp [blanksL, beq_nat, h]
theorem Bout {c : UInt8} (h : c.toNat = 10) (r : List UInt8) (ln : Bool) (n : Nat) : blanksL true (c :: r) ln n = blanksL false (c :: r) ln n := by simp [blanksL, h]
set_option maxHeartbeats 3200000 in
set_option maxRecDepth 100000 in
theorem blanks_c {src : ByteArray} {n : Nat} (hs : src.size ≤ 4096) (hn : n ≤ src.size) {R : List UInt8 × Bool × Nat} (hR : blanksL false (dropB src n) false n = R) :
    Calls Try.prog 28 #[.string src, .int .i64 (n : Nat)] w fun e w' => e = .returned (.tuple #[.int .i64 (R.2.2 : Nat), .bool R.2.1]) ∧ w = w' := by
  have HR := hid hR
  clear hR
  go_enter Try.func28, Try.ntmps28
  go_wp2_with fail
  go_loop [1, 6] (fun x y => ∃ (j : Nat) (ln : Bool), j ≤ src.size ∧ x = .int .i64 (j : Nat) ∧ y = .bool ln ∧ Box (blanksL false (dropB src j) ln j = R)) (fun x _ => src.size - (RowKit.intOf x).toNat)
  case atStart => exact ⟨n, false, hn, rfl, rfl, HR⟩
  case round =>
    clear HR
    obtain ⟨j, ln, hj, rfl, rfl, HR⟩ := hrel
    rcases Nat.lt_or_ge j src.size with hlt | hge
    · have hlt' : (j : Int) < (src.size : Int) := by omega
      have hr := HR.out
      have hd := drop_lt hlt
      rw [hd] at hr
      have hcc : ∀ h : j < src.size, src[j] = src[j] := fun _ => rfl
      obtain ⟨c, hc⟩ : ∃ c, c = src[j] := ⟨_, rfl⟩
      rw [← hc] at hr
      have hc8 : c.toNat < 256 := c.toNat_lt
      by_cases h10 : c.toNat = 10
      · rw [B10 h10] at hr
        have HR2 := hid hr
        have q0 : (src[j].toNat : Int) = 10 := by rw [← hc]; omega
        clear hr hc h10 hd HR hcc
        go_wp2_with fail
        go_round
        case rel => exact ⟨j + 1, true, hlt, by go_num, rfl, HR2⟩
        case measure => simp [RowKit.intOf]; omega
      · by_cases hsp : c.toNat = 9 ∨ c.toNat = 13 ∨ c.toNat = 32
        · rw [Bsp hsp] at hr
          have HR2 := hid hr
          clear hr hd HR hcc
          rcases hsp with h | h | h
          · have q0 : (src[j].toNat : Int) = 9 := by rw [← hc]; omega
            clear hc h h10
            go_wp2_with fail
            go_round
            case rel => exact ⟨j + 1, ln, hlt, by go_num, rfl, HR2⟩
            case measure => simp [RowKit.intOf]; omega
          · have q0 : (src[j].toNat : Int) = 13 := by rw [← hc]; omega
            clear hc h h10
            go_wp2_with fail
            go_round
            case rel => exact ⟨j + 1, ln, hlt, by go_num, rfl, HR2⟩
            case measure => simp [RowKit.intOf]; omega
          · have q0 : (src[j].toNat : Int) = 32 := by rw [← hc]; omega
            clear hc h h10
            go_wp2_with fail
            go_round
            case rel => exact ⟨j + 1, ln, hlt, by go_num, rfl, HR2⟩
            case measure => simp [RowKit.intOf]; omega
        · have q10 : ¬ (src[j].toNat : Int) = 10 := by rw [← hc]; omega
          have q9 : ¬ (src[j].toNat : Int) = 9 := by rw [← hc]; omega
          have q13 : ¬ (src[j].toNat : Int) = 13 := by rw [← hc]; omega
          have q32 : ¬ (src[j].toNat : Int) = 32 := by rw [← hc]; omega
          by_cases h47 : c.toNat = 47
          · have q47 : (src[j].toNat : Int) = 47 := by rw [← hc]; omega
            rcases Nat.lt_or_ge (j + 1) src.size with hl2 | hg2
            · have hl2' : (j : Int) + 1 < (src.size : Int) := by omega
              have hd2 := drop_lt hl2
              obtain ⟨d, hdd⟩ : ∃ d, d = src[j + 1] := ⟨_, rfl⟩
              rw [hd2, ← hdd] at hr
              by_cases d47 : d.toNat = 47
              · rw [Bcm h47 d47] at hr
                have qd : (src[j + 1].toNat : Int) = 47 := by rw [← hdd]; omega
                have HR2 : Box (blanksL true (dropB src j) ln j = R) := hid (by rw [hd, hd2, ← hc, ← hdd]; exact hr)
                clear hr hd hd2 hc hdd HR hcc h10 hsp h47 d47 q10 q9 q13 q32
                go_wp2_with fail
                go_loop [1] (fun x => ∃ i : Nat, j ≤ i ∧ i ≤ src.size ∧ x = .int .i64 (i : Nat) ∧ Box (blanksL true (dropB src i) ln i = R)) (fun x => src.size - (RowKit.intOf x).toNat)
                case atStart => exact ⟨j, Nat.le_refl _, hj, rfl, HR2⟩
                case round =>
                  clear HR2
                  obtain ⟨i, hji, his, rfl, HR⟩ := hrel
                  rcases Nat.lt_or_ge i src.size with hil | hig
                  · have hil' : (i : Int) < (src.size : Int) := by omega
                    have hr := HR.out
                    have he := drop_lt hil
                    by_cases e10 : src[i].toNat = 10
                    · rw [he, Bout e10, ← he] at hr
                      have HR2 := hid hr
                      have p10 : (src[i].toNat : Int) = 10 := by omega
                      have hne : i ≠ j := by
                        rintro rfl
                        omega
                      have hne' : j < i := by omega
                      clear hr he e10 HR hne q47 qd
                      go_wp2_with fail
                      go_round
                      case rel => exact ⟨i, ln, his, rfl, rfl, HR2⟩
                      case measure => simp [RowKit.intOf]; omega
                    · rw [he, Bin e10] at hr
                      have HR2 := hid hr
                      have p10 : ¬ (src[i].toNat : Int) = 10 := by omega
                      have p10' : ((src[i].toNat : Int) != 10) = true := by simpa using p10
                      clear hr he e10 HR q47 qd
                      go_wp2_with fail
                      go_round
                      case rel => exact ⟨i + 1, by omega, hil, by go_num, HR2⟩
                      case measure => simp [RowKit.intOf]; omega
                  · obtain rfl : i = src.size := by omega
                    have hr := HR.out
                    rw [drop_ge (Nat.le_refl _)] at hr
                    have HR2 : Box (blanksL false (dropB src src.size) ln src.size = R) := hid (by rw [drop_ge (Nat.le_refl _)]; exact hr)
                    clear hr HR q47 qd
                    go_wp2_with fail
                    go_round
                    case rel => exact ⟨src.size, ln, Nat.le_refl _, rfl, rfl, HR2⟩
                    case measure => simp [RowKit.intOf]; omega
              · have hno := Bno (c := c) ⟨h10, by omega, by omega, by omega⟩ (d :: dropB src (j + 1 + 1)) (fun _ d' t e => by injection e with e1 _; rw [← e1]; exact d47) ln j
                rw [hno] at hr
                have qd : ¬ (src[j + 1].toNat : Int) = 47 := by rw [← hdd]; omega
                have HE := hid hr
                clear hr hd hd2 hc hdd HR hcc h10 hsp h47 d47 hno
                go_wp2_with fail
                go_ret2
                have he := HE.out
                subst he
                exact ⟨rfl, rfl⟩
            · have hg2' : ¬ (j : Int) + 1 < (src.size : Int) := by omega
              have hno := Bno (c := c) ⟨h10, by omega, by omega, by omega⟩ (dropB src (j + 1)) (fun _ d' t e => by rw [drop_ge hg2] at e; cases e) ln j
              rw [hno] at hr
              have HE := hid hr
              clear hr hd hc HR hcc h10 hsp h47 hno
              go_wp2_with fail
              go_ret2
              have he := HE.out
              subst he
              exact ⟨rfl, rfl⟩
          · have q47 : ¬ (src[j].toNat : Int) = 47 := by rw [← hc]; omega
            have hno := Bno (c := c) ⟨h10, by omega, by omega, by omega⟩ (dropB src (j + 1)) (fun e => absurd e h47) ln j
            rw [hno] at hr
            have HE := hid hr
            have p10 : ((src[j].toNat : Int) == 10) = false := by simpa using q10
            have p9 : ((src[j].toNat : Int) == 9) = false := by simpa using q9
            have p13 : ((src[j].toNat : Int) == 13) = false := by simpa using q13
            have p32 : ((src[j].toNat : Int) == 32) = false := by simpa using q32
            have p47 : ((src[j].toNat : Int) == 47) = false := by simpa using q47
            clear hr hd hc HR hcc h10 hsp h47 hno
            go_wp2_with fail
            go_ret2
            have he := HE.out
            subst he
            exact ⟨rfl, rfl⟩
    · obtain rfl : j = src.size := by omega
      have hr := HR.out
      rw [drop_ge (Nat.le_refl _)] at hr
      have HE := hid (show ([], ln, src.size) = R from hr)
      clear HR hr
      go_wp2_with fail
      go_ret2
      have he := HE.out
      subst he
      exact ⟨rfl, rfl⟩
end
end Go.Proofs.Ytibepkblgliooaa.Q
namespace Go.Proofs.Ytibepkblgliooaa.Q
open Go.RowKit
theorem blanks_len (c : Bool) (l : List UInt8) (ln : Bool) (n : Nat) : (blanksL c l ln n).2.2 + (blanksL c l ln n).1.length = n + l.length := by
  fun_induction blanksL c l ln n <;> (try simp_all) <;> (try omega)
theorem blanks_le (c : Bool) (l : List UInt8) (ln : Bool) (n : Nat) : n ≤ (blanksL c l ln n).2.2 := by
  fun_induction blanksL c l ln n <;> (try simp_all) <;> (try omega)
theorem digits_len (l : List UInt8) (v n : Nat) : (digitsL l v n).2.1 + (digitsL l v n).2.2.length = n + l.length := by
  fun_induction digitsL l v n <;> (try simp_all) <;> (try omega)
theorem digits_le (l : List UInt8) (v n : Nat) : n ≤ (digitsL l v n).2.1 := by
  fun_induction digitsL l v n <;> (try simp_all) <;> (try omega)
theorem word_le (l : List UInt8) (n : Nat) : n ≤ wordL l n ∧ wordL l n ≤ n + l.length := by
  fun_induction wordL l n <;> (try simp_all) <;> (try omega)
theorem quoted_le (l b : List UInt8) (n : Nat) : n ≤ (quotedL l b n).2 ∧ (quotedL l b n).2 ≤ n + l.length := by
  fun_induction quotedL l b n <;> (try simp_all) <;> (try omega)
theorem head_len : ∀ {x l : List UInt8}, headL x l = true → x.length ≤ l.length
  | [], _, _ => Nat.zero_le _
  | a :: x, [], h => by simp [headL] at h
  | a :: x, b :: l, h => by
    simp only [headL, Bool.and_eq_true] at h
    have := head_len h.2
    simp; omega
theorem sign_mem : ∀ {L : List (List UInt8)} {r x : List UInt8}, signL L r = some x → x ∈ L ∧ headL x r = true
  | [], _, _, h => by simp [signL] at h
  | y :: L, r, x, h => by
    unfold signL at h
    split at h
    · rename_i h1
      injection h with h
      subst h
      exact ⟨List.mem_cons_self, h1⟩
    · have := sign_mem h
      exact ⟨List.mem_cons_of_mem _ this.1, this.2⟩
theorem signs_pos : ∀ x ∈ signsL, 1 ≤ x.length := by decide
/-- A token lies behind its blanks, and ends in its text; one that is a token has a byte. -/
theorem tokL_fits (r : List UInt8) (ln : Bool) (n : Nat) : (tokL r ln n).1.at_ = n ∧ n ≤ (tokL r ln n).2 ∧ (tokL r ln n).2 ≤ n + r.length ∧ (((tokL r ln n).1.kind = 0 ∨ (tokL r ln n).1.kind = 6) ∨ n < (tokL r ln n).2) := by
  unfold tokL
  split
  · simp
  · rename_i c r'
    split
    · rename_i hd
      have h1 := digits_len (c :: r') 0 0
      have h2 : 1 ≤ (digitsL (c :: r') 0 0).2.1 := by
        unfold digitsL
        rw [if_pos hd]
        exact digits_le _ _ _
      split
      rename_i v k rest heq
      rw [heq] at h1 h2
      simp only at h1 h2
      simp only [List.length_cons] at h1 ⊢
      cases rest <;> simp only <;> split <;> exact ⟨rfl, by simp only; omega, by simp only; omega, .inr (by simp only; omega)⟩
    · split
      · have h1 := quoted_le r' [] (n + 1)
        split
        · rename_i e heq
          rw [heq] at h1
          simp only at h1
          simp; omega
        · rename_i b e heq
          rw [heq] at h1
          simp only at h1
          simp; omega
      · split
        · rename_i hl
          have h1 := word_le (c :: r') 0
          have h2 : 1 ≤ wordL (c :: r') 0 := by
            unfold wordL
            rw [hl, Bool.true_or, if_pos rfl]
            exact (word_le _ _).1
          simp only
          refine ⟨trivial, ?_⟩
          generalize wordL (c :: r') 0 = k at h1 h2
          refine ⟨by omega, by omega, .inr (by omega)⟩
        · split
          · rename_i x hx
            have h1 := sign_mem hx
            have h2 := head_len h1.2
            have h3 := signs_pos _ h1.1
            refine ⟨rfl, ?_, ?_, .inr ?_⟩
            · simp
            · simp only; omega
            · simp only; omega
          · simp
theorem tok_fits (src : ByteArray) (n : Nat) (hn : n ≤ src.size) : n ≤ (tok src n).1.at_ ∧ (tok src n).1.at_ ≤ (tok src n).2 ∧ (tok src n).2 ≤ src.size ∧ (((tok src n).1.kind = 0 ∨ (tok src n).1.kind = 6) ∨ (tok src n).1.at_ < (tok src n).2) := by
  unfold tok
  have h1 := blanks_len false (src.data.toList.drop n) false n
  have h2 := blanks_le false (src.data.toList.drop n) false n
  split
  rename_i r ln m heq
  rw [heq] at h1 h2
  simp only [List.length_drop] at h1 h2
  obtain ⟨h3, h4, h5, h6⟩ := tokL_fits r ln m
  have h7 : src.data.toList.length = src.size := Array.length_toList
  rw [h7] at h1
  exact ⟨by omega, by omega, by omega, h6.imp id (fun h => by omega)⟩
end Go.Proofs.Ytibepkblgliooaa.Q
namespace Go.Proofs.Ytibepkblgliooaa.Q
open Go.RowKit
open Go.Proofs.YtibepkblgliooaaW.PrintWords
theorem extract_take (src : ByteArray) (i j : Nat) : src.extract i j = bytesOf ((dropB src i).take (j - i)) := by
  unfold bytesOf dropB
  apply ByteArray.ext
  rw [ByteArray.data_extract]
  apply Array.toList_inj.1
  simp [Array.toList_extract, List.extract_eq_take_drop]
theorem digit_iff (c : UInt8) : digitB c = true ↔ 48 ≤ c.toNat ∧ c.toNat ≤ 57 := by unfold digitB; simp
theorem digit_hit {w : World} (c : UInt8) {b : Bool} (hb : digitB c = b) : Calls Try.prog 29 #[.int .u8 (c.toNat : Nat)] w fun e w' => e = .returned (.bool b) ∧ w = w' := by
  have := digit_c (w := w) c
  rwa [hb] at this
theorem letter_hit {w : World} (c : UInt8) {b : Bool} (hb : letterB c = b) : Calls Try.prog 32 #[.int .u8 (c.toNat : Nat)] w fun e w' => e = .returned (.bool b) ∧ w = w' := by
  have := letter_c (w := w) c
  rwa [hb] at this
def tkV (t : Tk × Nat) : Value := .agg #[.int .i64 t.1.kind, .string t.1.text, .int .i64 t.1.num, .int .i64 t.1.at_, .bool t.1.line, .int .i64 t.2]
def headLt : List UInt8 → Bool
  | [] => false
  | d :: _ => letterB d
theorem tok_num {src : ByteArray} {n V K : Nat} {rest : List UInt8} (ln : Bool) (hn : n < src.size) (hd : digitB src[n] = true) (hD : digitsL (dropB src n) 0 0 = (V, K, rest)) :
    tokL (dropB src n) ln n = if Nat.blt 2147483647 V || (Nat.beq src[n].toNat 48 && Nat.blt 1 K) || headLt rest then (⟨6, ⟨#[]⟩, 0, n, ln⟩, n + K) else (⟨1, src.extract n (n + K), (V : Nat), n, ln⟩, n + K) := by
  have h1 : src.extract n (n + K) = bytesOf ((src[n] :: dropB src (n + 1)).take K) := by rw [extract_take, drop_lt hn]; congr 2; omega
  rw [drop_lt hn] at hD ⊢
  unfold tokL
  simp only [hd, if_true, hD, h1]
  cases rest <;> rfl
section
variable {w : World}
set_option maxHeartbeats 3200000 in
set_option maxRecDepth 100000 in
theorem number_c {src : ByteArray} {n : Nat} {ln : Bool} (hs : src.size ≤ 4096) (hn : n < src.size) (hd : digitB src[n] = true) :
    Calls Try.prog 30 #[.string src, .int .i64 (n : Nat), .agg #[.int .i64 0, .string ⟨#[]⟩, .int .i64 0, .int .i64 (n : Nat), .bool ln]] w fun e w' => e = .returned (tkV (tokL (dropB src n) ln n)) ∧ Below w.heap.size w w' := by
  obtain ⟨V, K, rest, hD⟩ : ∃ V K rest, digitsL (dropB src n) 0 0 = (V, K, rest) := ⟨_, _, _, rfl⟩
  have HD := hid hD
  have HD0 := hid hD
  have HH := hid hd
  have hlen := digits_len (dropB src n) 0 0
  have hpos : 1 ≤ K := by
    have h1 : 1 ≤ (digitsL (dropB src n) 0 0).2.1 := by
      rw [drop_lt hn]
      unfold digitsL
      rw [if_pos hd]
      exact digits_le _ _ _
    rw [hD] at h1
    exact h1
  have hbel : Below w.heap.size w ((w.alloc (.cells #[.int .i64 0, .string ⟨#[]⟩, .int .i64 0, .int .i64 (n : Nat), .bool ln] 55)).alloc (.cells #[.int .i64 0, .string ⟨#[]⟩, .int .i64 0, .int .i64 0, .bool false, .int .i64 0] 57)) := ((Below.refl _ _).alloc (Nat.le_refl _) _).alloc (by simp) _
  have HB := hid hbel
  have hnn : (n : Int) < (src.size : Int) := by omega
  clear hD hd hlen hbel
  go_enter Try.func30, Try.ntmps30
  go_wp2_with fail
  go_loop [7, 8] (fun x y => ∃ (j v : Nat), n ≤ j ∧ j ≤ src.size ∧ v ≤ 2147483648 ∧ x = .int .i64 (j : Nat) ∧ y = .int .i64 (v : Nat) ∧ Box (digitsL (dropB src j) v (j - n) = (V, K, rest))) (fun x _ => src.size - (RowKit.intOf x).toNat)
  case atStart => exact ⟨n, 0, Nat.le_refl _, by omega, by omega, rfl, rfl, by rw [Nat.sub_self]; exact HD⟩
  case round =>
    clear HD
    obtain ⟨j, v, hnj, hj, hv, rfl, rfl, HR⟩ := hrel
    have fin : ∀ {rs : List UInt8}, (v, j - n, rs) = (V, K, rest) → v = V ∧ j = n + K ∧ rs = rest := fun e => by
      injection e with e1 e
      injection e with e2 e3
      exact ⟨e1, by omega, e3⟩
    rcases Nat.lt_or_ge j src.size with hlt | hge
    · have hlt' : (j : Int) < (src.size : Int) := by omega
      have hr := HR.out
      rw [drop_lt hlt] at hr
      cases hdg : digitB src[j]
      · have hq : digitsL (src[j] :: dropB src (j + 1)) v (j - n) = (v, j - n, src[j] :: dropB src (j + 1)) := by rw [digitsL, hdg]; rfl
        rw [hq] at hr
        obtain ⟨rfl, hjk, rfl⟩ := fin hr
        have HDG := hid hdg
        have hnj' : (n : Int) ≤ (j : Int) := by omega
        have hj' : (j : Int) ≤ (src.size : Int) := by omega
        clear hr hq fin hdg
        rcases (by omega : 2147483647 < v ∨ v ≤ 2147483647) with hb1 | hb1
        · have b1 : (2147483647 : Int) < (v : Int) := by omega
          have HT := hid (show tokL (dropB src n) ln n = (⟨6, ⟨#[]⟩, 0, n, ln⟩, j) by rw [tok_num ln hn HH.out HD0.out, if_pos (by simp [headLt, hb1]), ← hjk])
          clear hjk HR
          go_wp2_with (first | (go_at_call 29; refine (digit_hit _ HDG.out).mono ?_; rintro e w1 ⟨rfl, rfl⟩) | (go_at_call 32; refine (letter_hit _ HLT.out).mono ?_; rintro e w1 ⟨rfl, rfl⟩))
          exact bodyPost_ret (v := .agg #[.int .i64 6, .string ⟨#[]⟩, .int .i64 0, .int .i64 (n : Nat), .bool ln, .int .i64 (j : Nat)]) (by simp [results, Try.results30, go_sem]) rfl ⟨by rw [HT.out]; rfl, ((Below.refl _ _).alloc (Nat.le_refl _) _).alloc (by simp) _⟩
        · have b1 : ¬ (2147483647 : Int) < (v : Int) := by omega
          have hb1' : ¬ 2147483647 < v := by omega
          by_cases hc48 : src[n].toNat = 48
          · have c48 : (src[n].toNat : Int) = 48 := by omega
            rcases (by omega : 1 < K ∨ K = 1) with hk1 | hk1
            · have k1 : (n : Int) + 1 < (j : Int) := by omega
              have HT := hid (show tokL (dropB src n) ln n = (⟨6, ⟨#[]⟩, 0, n, ln⟩, j) by rw [tok_num ln hn HH.out HD0.out, if_pos (by simp [headLt, hc48, hk1]), ← hjk])
              clear hjk HR
              go_wp2_with (first | (go_at_call 29; refine (digit_hit _ HDG.out).mono ?_; rintro e w1 ⟨rfl, rfl⟩) | (go_at_call 32; refine (letter_hit _ HLT.out).mono ?_; rintro e w1 ⟨rfl, rfl⟩))
              exact bodyPost_ret (v := .agg #[.int .i64 6, .string ⟨#[]⟩, .int .i64 0, .int .i64 (n : Nat), .bool ln, .int .i64 (j : Nat)]) (by simp [results, Try.results30, go_sem]) rfl ⟨by rw [HT.out]; rfl, ((Below.refl _ _).alloc (Nat.le_refl _) _).alloc (by simp) _⟩
            · have k1 : ¬ (n : Int) + 1 < (j : Int) := by omega
              cases hlt2 : letterB src[j]
              · have HLT := hid hlt2
                have HT := hid (show tokL (dropB src n) ln n = (⟨1, src.extract n j, (v : Nat), n, ln⟩, j) by rw [tok_num ln hn HH.out HD0.out, if_neg (by simp [headLt, hb1, hk1, hlt2]), ← hjk])
                clear hjk HR
                go_wp2_with (first | (go_at_call 29; refine (digit_hit _ HDG.out).mono ?_; rintro e w1 ⟨rfl, rfl⟩) | (go_at_call 32; refine (letter_hit _ HLT.out).mono ?_; rintro e w1 ⟨rfl, rfl⟩))
                exact bodyPost_ret (v := .agg #[.int .i64 1, .string (src.extract n j), .int .i64 (v : Nat), .int .i64 (n : Nat), .bool ln, .int .i64 (j : Nat)]) (by simp [results, Try.results30, go_sem]) rfl ⟨by rw [HT.out]; rfl, ((Below.refl _ _).alloc (Nat.le_refl _) _).alloc (by simp) _⟩
              · have HLT := hid hlt2
                have HT := hid (show tokL (dropB src n) ln n = (⟨6, ⟨#[]⟩, 0, n, ln⟩, j) by rw [tok_num ln hn HH.out HD0.out, if_pos (by simp [headLt, hlt2]), ← hjk])
                clear hjk HR
                go_wp2_with (first | (go_at_call 29; refine (digit_hit _ HDG.out).mono ?_; rintro e w1 ⟨rfl, rfl⟩) | (go_at_call 32; refine (letter_hit _ HLT.out).mono ?_; rintro e w1 ⟨rfl, rfl⟩))
                exact bodyPost_ret (v := .agg #[.int .i64 6, .string ⟨#[]⟩, .int .i64 0, .int .i64 (n : Nat), .bool ln, .int .i64 (j : Nat)]) (by simp [results, Try.results30, go_sem]) rfl ⟨by rw [HT.out]; rfl, ((Below.refl _ _).alloc (Nat.le_refl _) _).alloc (by simp) _⟩
          · have c48 : ((src[n].toNat : Int) == 48) = false := by simp; omega
            cases hlt2 : letterB src[j]
            · have HLT := hid hlt2
              have HT := hid (show tokL (dropB src n) ln n = (⟨1, src.extract n j, (v : Nat), n, ln⟩, j) by rw [tok_num ln hn HH.out HD0.out, if_neg (by simp [headLt, hb1, hc48, hlt2]), ← hjk])
              clear hjk HR
              go_wp2_with (first | (go_at_call 29; refine (digit_hit _ HDG.out).mono ?_; rintro e w1 ⟨rfl, rfl⟩) | (go_at_call 32; refine (letter_hit _ HLT.out).mono ?_; rintro e w1 ⟨rfl, rfl⟩))
              exact bodyPost_ret (v := .agg #[.int .i64 1, .string (src.extract n j), .int .i64 (v : Nat), .int .i64 (n : Nat), .bool ln, .int .i64 (j : Nat)]) (by simp [results, Try.results30, go_sem]) rfl ⟨by rw [HT.out]; rfl, ((Below.refl _ _).alloc (Nat.le_refl _) _).alloc (by simp) _⟩
            · have HLT := hid hlt2
              have HT := hid (show tokL (dropB src n) ln n = (⟨6, ⟨#[]⟩, 0, n, ln⟩, j) by rw [tok_num ln hn HH.out HD0.out, if_pos (by simp [headLt, hlt2]), ← hjk])
              clear hjk HR
              go_wp2_with (first | (go_at_call 29; refine (digit_hit _ HDG.out).mono ?_; rintro e w1 ⟨rfl, rfl⟩) | (go_at_call 32; refine (letter_hit _ HLT.out).mono ?_; rintro e w1 ⟨rfl, rfl⟩))
              exact bodyPost_ret (v := .agg #[.int .i64 6, .string ⟨#[]⟩, .int .i64 0, .int .i64 (n : Nat), .bool ln, .int .i64 (j : Nat)]) (by simp [results, Try.results30, go_sem]) rfl ⟨by rw [HT.out]; rfl, ((Below.refl _ _).alloc (Nat.le_refl _) _).alloc (by simp) _⟩
      · have hq : digitsL (src[j] :: dropB src (j + 1)) v (j - n) = digitsL (dropB src (j + 1)) (min (v * 10 + (src[j].toNat - 48)) 2147483648) (j - n + 1) := by rw [digitsL, if_pos hdg]
        rw [hq] at hr
        obtain ⟨d1, d2⟩ := (digit_iff _).1 hdg
        have HR2 : Box (digitsL (dropB src (j + 1)) (min (v * 10 + (src[j].toNat - 48)) 2147483648) (j + 1 - n) = (V, K, rest)) := hid (by rw [show j + 1 - n = j - n + 1 by omega]; exact hr)
        have HDG := hid hdg
        have d1' : (48 : Int) ≤ (src[j].toNat : Int) := by omega
        have d2' : (src[j].toNat : Int) ≤ 57 := by omega
        have hv' : (v : Int) ≤ 2147483648 := by omega
        clear hr hq HR fin hdg
        go_wp2_with (go_at_call 29; refine (digit_hit _ HDG.out).mono ?_; rintro e w1 ⟨rfl, rfl⟩)
        go_round
        case rel => exact ⟨j + 1, min (v * 10 + (src[j].toNat - 48)) 2147483648, by omega, hlt, by omega, by go_num, by congr 1; omega, HR2⟩
        case measure => simp [RowKit.intOf]; omega
    · have hr := HR.out
      rw [drop_ge hge] at hr
      obtain ⟨rfl, hjk, rfl⟩ := fin hr
      have hnj' : (n : Int) ≤ (j : Int) := by omega
      have hj' : (j : Int) ≤ (src.size : Int) := by omega
      have hlt' : ¬ (j : Int) < (src.size : Int) := by omega
      clear hr fin
      rcases (by omega : 2147483647 < v ∨ v ≤ 2147483647) with hb1 | hb1
      · have b1 : (2147483647 : Int) < (v : Int) := by omega
        have HT := hid (show tokL (dropB src n) ln n = (⟨6, ⟨#[]⟩, 0, n, ln⟩, j) by rw [tok_num ln hn HH.out HD0.out, if_pos (by simp [headLt, hb1]), ← hjk])
        clear hjk HR
        go_wp2_with fail
        exact bodyPost_ret (v := .agg #[.int .i64 6, .string ⟨#[]⟩, .int .i64 0, .int .i64 (n : Nat), .bool ln, .int .i64 (j : Nat)]) (by simp [results, Try.results30, go_sem]) rfl ⟨by rw [HT.out]; rfl, ((Below.refl _ _).alloc (Nat.le_refl _) _).alloc (by simp) _⟩
      · have b1 : ¬ (2147483647 : Int) < (v : Int) := by omega
        have hb1' : ¬ 2147483647 < v := by omega
        by_cases hc48 : src[n].toNat = 48
        · have c48 : (src[n].toNat : Int) = 48 := by omega
          rcases (by omega : 1 < K ∨ K = 1) with hk1 | hk1
          · have k1 : (n : Int) + 1 < (j : Int) := by omega
            have HT := hid (show tokL (dropB src n) ln n = (⟨6, ⟨#[]⟩, 0, n, ln⟩, j) by rw [tok_num ln hn HH.out HD0.out, if_pos (by simp [headLt, hc48, hk1]), ← hjk])
            clear hjk HR
            go_wp2_with fail
            exact bodyPost_ret (v := .agg #[.int .i64 6, .string ⟨#[]⟩, .int .i64 0, .int .i64 (n : Nat), .bool ln, .int .i64 (j : Nat)]) (by simp [results, Try.results30, go_sem]) rfl ⟨by rw [HT.out]; rfl, ((Below.refl _ _).alloc (Nat.le_refl _) _).alloc (by simp) _⟩
          · have k1 : ¬ (n : Int) + 1 < (j : Int) := by omega
            have HT := hid (show tokL (dropB src n) ln n = (⟨1, src.extract n j, (v : Nat), n, ln⟩, j) by rw [tok_num ln hn HH.out HD0.out, if_neg (by simp [headLt, hb1, hk1]), ← hjk])
            clear hjk HR
            go_wp2_with fail
            exact bodyPost_ret (v := .agg #[.int .i64 1, .string (src.extract n j), .int .i64 (v : Nat), .int .i64 (n : Nat), .bool ln, .int .i64 (j : Nat)]) (by simp [results, Try.results30, go_sem]) rfl ⟨by rw [HT.out]; rfl, ((Below.refl _ _).alloc (Nat.le_refl _) _).alloc (by simp) _⟩
        · have c48 : ((src[n].toNat : Int) == 48) = false := by simp; omega
          have HT := hid (show tokL (dropB src n) ln n = (⟨1, src.extract n j, (v : Nat), n, ln⟩, j) by rw [tok_num ln hn HH.out HD0.out, if_neg (by simp [headLt, hb1, hc48]), ← hjk])
          clear hjk HR
          go_wp2_with fail
          exact bodyPost_ret (v := .agg #[.int .i64 1, .string (src.extract n j), .int .i64 (v : Nat), .int .i64 (n : Nat), .bool ln, .int .i64 (j : Nat)]) (by simp [results, Try.results30, go_sem]) rfl ⟨by rw [HT.out]; rfl, ((Below.refl _ _).alloc (Nat.le_refl _) _).alloc (by simp) _⟩
end
end Go.Proofs.Ytibepkblgliooaa.Q
namespace Go.Proofs.Ytibepkblgliooaa.Q
open Go.RowKit
open Go.Proofs.YtibepkblgliooaaW.PrintWords
/-- A row of texts in memory. -/
def TextsAt (w : World) (b : Nat) (l : List ByteArray) : Prop := ∀ (j : Nat) (s : ByteArray), l[j]? = some s → w.cell? ⟨b, j, none⟩ = some (.string s)
theorem TextsAt.drewN {w : World} {b : Nat} {l : List ByteArray} (h : TextsAt w b l) (m : Nat) : TextsAt (w.drewN m) b l := h
theorem lit_beq (s : ByteArray) (L : List UInt8) : (s.toList == L) = beqB s ⟨L.toArray⟩ := by
  rw [← toList_beq, show (⟨L.toArray⟩ : ByteArray).toList = L by rw [ByteArray.toList_eq]]
set_option maxHeartbeats 1600000 in
set_option maxRecDepth 100000 in
theorem in_rc {w : World} {b : Nat} {l : List ByteArray} (h : TextsAt w b l) (hl : l.length ≤ 1000) (s : ByteArray) : Calls Try.prog 48 #[.slice (some ⟨b, 0, none⟩) l.length l.length, .string s] w fun e w' => e = .returned (.bool (l.any (fun x => beqB x s))) ∧ w' = w := by
  have H := hid h
  clear h
  go_enter Try.func48, Try.ntmps48
  go_wp2_with fail
  go_loop [5] (fun i => ∃ j : Nat, j ≤ l.length ∧ i = .int .i64 j ∧ Box ((l.take j).any (fun x => beqB x s) = false)) (fun i => l.length - (RowKit.intOf i).toNat)
  case atStart => exact ⟨0, Nat.zero_le _, rfl, hid (by simp)⟩
  case round =>
    obtain ⟨j, hj, rfl, HA⟩ := hrel
    rcases Nat.lt_or_ge j l.length with hlt | hge
    · have hx : l[j]? = some l[j] := List.getElem?_eq_getElem hlt
      have hc := H.out j _ hx
      have htk := List.take_succ_eq_append_getElem hlt
      generalize l[j] = x at hx hc htk
      have HTK := hid htk
      have hlt' : (j : Int) < (l.length : Int) := by omega
      cases hb : beqB x s
      · have hq : (x.toList == s.toList) = false := by rw [toList_beq]; exact hb
        have HB := hid hb
        clear hx htk hb
        go_wp2_with fail
        go_round
        case rel => exact ⟨j + 1, by omega, by go_num, hid (by rw [HTK.out, List.any_append, HA.out]; simp [HB.out])⟩
        case measure => simp [RowKit.intOf]; omega
      · have hq : (x.toList == s.toList) = true := by rw [toList_beq]; exact hb
        have HB : Box (l.any (fun x => beqB x s) = true) := hid (List.any_eq_true.2 ⟨x, List.mem_of_getElem? hx, hb⟩)
        clear hx htk hb
        go_wp2_with fail
        go_ret
        exact ⟨ret_bool HB.out, rfl⟩
    · obtain rfl : j = l.length := by omega
      have HB : Box (l.any (fun x => beqB x s) = false) := by have := HA.out; rw [List.take_length] at this; exact hid this
      clear HA
      go_wp2_with fail
      go_ret
      exact ⟨ret_bool HB.out, rfl⟩
theorem among_hit {w : World} {b : Nat} {l : List ByteArray} (h : TextsAt w b l) (hl : l.length ≤ 1000) (s : ByteArray) {q : Bool} (hq : l.any (fun x => beqB x s) = q) : Calls Try.prog 48 #[.slice (some ⟨b, 0, none⟩) l.length l.length, .string s] w fun e w' => e = .returned (.bool q) ∧ w' = w := by
  have := in_rc h hl s
  rwa [hq] at this
theorem texts_new (w : World) (l : List ByteArray) (t : TypeId) : TextsAt (w.alloc (.cells (l.map Value.string).toArray t)) w.heap.size l := fun j s hj => by
  refine (cell_of_row _ _ j _ _ _ (heap_alloc_new _ _)).trans ?_
  simp [hj]
open Go.Proofs.YtibepkblgliooaaW.PrintWords
theorem infoU8 : (Try.prog.info? 5).map (fun i => (i.zero, i.size, i.bytes)) = some (some (.int .u8 0), 1, 1) := by kernel_rfl
def intsB (l : List UInt8) : List Int := l.map (fun c => (c.toNat : Int))
theorem strOf_intsB (l : List UInt8) : strOfNums (intsB l) = bytesOf l := by
  unfold strOfNums bytesOf intsB
  rw [List.map_map]
  congr 2
  conv => rhs; rw [← List.map_id l]
  refine List.map_congr_left fun c _ => ?_
  show UInt8.ofNat (c.toNat : Int).toNat = id c
  rw [Int.toNat_natCast]; exact UInt8.ofNat_toNat
theorem q34 {c : UInt8} (h : c.toNat = 34) (r b : List UInt8) (n : Nat) : quotedL (c :: r) b n = (some b, n + 1) := by cases r <;> simp [quotedL, h]
theorem q92n {c : UInt8} (h : c.toNat = 92) (b : List UInt8) (n : Nat) : quotedL [c] b n = (none, n) := by simp [quotedL, beq_nat, h]
theorem q92q {c d : UInt8} (h : c.toNat = 92) (hd : d.toNat = 34 ∨ d.toNat = 92) (r b : List UInt8) (n : Nat) : quotedL (c :: d :: r) b n = quotedL r (b ++ [d]) (n + 2) := by rcases hd with hd | hd <;> simp [quotedL, beq_nat, h, hd]
theorem q92l {c d : UInt8} (h : c.toNat = 92) (hd : d.toNat = 110) (r b : List UInt8) (n : Nat) : quotedL (c :: d :: r) b n = quotedL r (b ++ [10]) (n + 2) := by simp [quotedL, beq_nat, h, hd]
theorem q92b {c d : UInt8} (h : c.toNat = 92) (hd : d.toNat ≠ 34 ∧ d.toNat ≠ 92 ∧ d.toNat ≠ 110) (r b : List UInt8) (n : Nat) : quotedL (c :: d :: r) b n = (none, n + 1) := by simp [quotedL, beq_nat, h, hd.1, hd.2.1, hd.2.2]
theorem qctl {c : UInt8} (h : c.toNat ≠ 34 ∧ c.toNat ≠ 92) (hc : c.toNat < 32 ∨ 126 < c.toNat) (r b : List UInt8) (n : Nat) : quotedL (c :: r) b n = (none, n) := by rcases hc with hc | hc <;> cases r <;> simp [quotedL, beq_nat, h.1, h.2, hc]
theorem qok {c : UInt8} (h : c.toNat ≠ 34 ∧ c.toNat ≠ 92) (hc : ¬ c.toNat < 32 ∧ ¬ 126 < c.toNat) (r b : List UInt8) (n : Nat) : quotedL (c :: r) b n = quotedL r (b ++ [c]) (n + 1) := by cases r <;> simp [quotedL, beq_nat, h.1, h.2, hc.1, hc.2]
def quoT (n : Nat) (ln : Bool) : Option (List UInt8) × Nat → Tk × Nat
  | (none, e) => (⟨6, ⟨#[]⟩, 0, n, ln⟩, e)
  | (some b, e) => (⟨2, bytesOf b, 0, n, ln⟩, e)
theorem tok_quo {src : ByteArray} {n : Nat} (ln : Bool) (hn : n < src.size) (hq : src[n].toNat = 34) {Q : Option (List UInt8) × Nat} (hQ : quotedL (dropB src (n + 1)) [] (n + 1) = Q) :
    tokL (dropB src n) ln n = quoT n ln Q := by
  have hd : digitB src[n] = false := by
    cases h : digitB src[n]
    · rfl
    · have := (digit_iff _).1 h; omega
  rw [drop_lt hn]
  unfold tokL
  simp only [hd, beq_nat, hq, hQ, Bool.false_eq_true, if_false, decide_true, if_true]
  rcases Q with ⟨_ | _, _⟩ <;> rfl
section
variable {w : World}
set_option maxHeartbeats 6400000 in
set_option maxRecDepth 100000 in
theorem quoted_c {src : ByteArray} {n : Nat} {ln : Bool} (hs : src.size ≤ 4096) (hn : n < src.size) (hq : src[n].toNat = 34) :
    Calls Try.prog 31 #[.string src, .int .i64 (n : Nat), .agg #[.int .i64 0, .string ⟨#[]⟩, .int .i64 0, .int .i64 (n : Nat), .bool ln]] w fun e w' => e = .returned (tkV (tokL (dropB src n) ln n)) ∧ Below w.heap.size w w' := by
  obtain ⟨Q, hQ⟩ : ∃ Q, quotedL (dropB src (n + 1)) [] (n + 1) = Q := ⟨_, rfl⟩
  have HT := hid (tok_quo ln hn hq hQ)
  have HQ := hid hQ
  have hb0 : Below w.heap.size w ((w.alloc (.cells #[.int .i64 6, .string ⟨#[]⟩, .int .i64 0, .int .i64 (n : Nat), .bool ln] 55)).alloc (.cells #[.int .i64 0, .string ⟨#[]⟩, .int .i64 0, .int .i64 0, .bool false, .int .i64 0] 57)) := ((Below.refl _ _).alloc (Nat.le_refl _) _).alloc (by simp) _
  have rt : ((w.alloc (.cells #[.int .i64 6, .string ⟨#[]⟩, .int .i64 0, .int .i64 (n : Nat), .bool ln] 55)).alloc (.cells #[.int .i64 0, .string ⟨#[]⟩, .int .i64 0, .int .i64 0, .bool false, .int .i64 0] 57)).heap[w.heap.size]? = some (.cells #[.int .i64 6, .string ⟨#[]⟩, .int .i64 0, .int .i64 (n : Nat), .bool ln] 55 (0, 0)) := by
    rw [heap_alloc_old _ _ (by simp)]; exact heap_alloc_new _ _
  have rr : ((w.alloc (.cells #[.int .i64 6, .string ⟨#[]⟩, .int .i64 0, .int .i64 (n : Nat), .bool ln] 55)).alloc (.cells #[.int .i64 0, .string ⟨#[]⟩, .int .i64 0, .int .i64 0, .bool false, .int .i64 0] 57)).heap[w.heap.size + 1]? = some (.cells #[.int .i64 0, .string ⟨#[]⟩, .int .i64 0, .int .i64 0, .bool false, .int .i64 0] 57 (0, 0)) := by
    have := heap_alloc_new (w.alloc (.cells #[.int .i64 6, .string ⟨#[]⟩, .int .i64 0, .int .i64 (n : Nat), .bool ln] 55)) (.cells #[.int .i64 0, .string ⟨#[]⟩, .int .i64 0, .int .i64 0, .bool false, .int .i64 0] 57)
    rwa [show (w.alloc (.cells #[.int .i64 6, .string ⟨#[]⟩, .int .i64 0, .int .i64 (n : Nat), .bool ln] 55)).heap.size = w.heap.size + 1 by simp] at this
  have hz : ((w.alloc (.cells #[.int .i64 6, .string ⟨#[]⟩, .int .i64 0, .int .i64 (n : Nat), .bool ln] 55)).alloc (.cells #[.int .i64 0, .string ⟨#[]⟩, .int .i64 0, .int .i64 0, .bool false, .int .i64 0] 57)).heap.size = w.heap.size + 2 := by simp
  have HB0 := hid hb0
  have RT := hid rt
  have RR := hid rr
  have HZ := hid hz
  clear hQ hq hb0 rt rr hz
  go_enter Try.func31, Try.ntmps31
  go_wp2_with fail
  generalize ((w.alloc (.cells #[.int .i64 6, .string ⟨#[]⟩, .int .i64 0, .int .i64 (n : Nat), .bool ln] 55)).alloc (.cells #[.int .i64 0, .string ⟨#[]⟩, .int .i64 0, .int .i64 0, .bool false, .int .i64 0] 57)) = W0 at HB0 RT RR HZ ⊢
  go_loopw [7, 8] (fun x y wx => ∃ (i : Nat) (bs : List UInt8), i ≤ src.size ∧ n + 1 ≤ i ∧ bs.length ≤ i ∧ y = .int .i64 (i : Nat) ∧ Box (quotedL (dropB src i) bs i = Q) ∧ Box (wx.ownsRow W0.heap.size 5 1 x bs.length (nums .u8 (intsB bs))) ∧ Box (Below W0.heap.size W0 wx)) (fun _ y _ => src.size - (RowKit.intOf y).toNat)
  case atStart => exact ⟨n + 1, [], hn, Nat.le_refl _, Nat.zero_le _, by go_num, HQ, hid (own_nil _ _ _ _), hid (Below.refl _ _)⟩
  case round =>
    clear HQ
    obtain ⟨i, bs, hi, hni, hbl, rfl, HQ, HO, HB⟩ := hrel
    have hbelow : Below w.heap.size w wr := HB0.out.trans (HB.out.mono HB0.out.size)
    have HBW := hid hbelow
    have rt := (HB.out.block w.heap.size (by have := HZ.out; omega)).trans RT.out
    have rr := (HB.out.block (w.heap.size + 1) (by have := HZ.out; omega)).trans RR.out
    have t0 := (cell_of_row _ _ 0 _ _ _ rt).trans (b := some (Value.int .i64 6)) rfl
    have t1 := (cell_of_row _ _ 1 _ _ _ rt).trans (b := some (Value.string ⟨#[]⟩)) rfl
    have t2 := (cell_of_row _ _ 2 _ _ _ rt).trans (b := some (Value.int .i64 0)) rfl
    have t3 := (cell_of_row _ _ 3 _ _ _ rt).trans (b := some (Value.int .i64 (n : Nat))) rfl
    have t4 := (cell_of_row _ _ 4 _ _ _ rt).trans (b := some (Value.bool ln)) rfl
    have ft : ∀ k, wr.frozen? ⟨w.heap.size, k, none⟩ = false := fun k => by simp [World.frozen?, rt]
    have fr : ∀ k, wr.frozen? ⟨w.heap.size + 1, k, none⟩ = false := fun k => by simp [World.frozen?, rr]
    have r0 := (cell_of_row _ _ 0 _ _ _ rr).trans (b := some (Value.int .i64 0)) rfl
    have r1 := (cell_of_row _ _ 1 _ _ _ rr).trans (b := some (Value.string ⟨#[]⟩)) rfl
    have r2 := (cell_of_row _ _ 2 _ _ _ rr).trans (b := some (Value.int .i64 0)) rfl
    have r3 := (cell_of_row _ _ 3 _ _ _ rr).trans (b := some (Value.int .i64 0)) rfl
    have r4 := (cell_of_row _ _ 4 _ _ _ rr).trans (b := some (Value.bool false)) rfl
    have r5 := (cell_of_row _ _ 5 _ _ _ rr).trans (b := some (Value.int .i64 0)) rfl
    have ft0 := ft 0
    have ft1 := ft 1
    have fr0 := fr 0
    have fr1 := fr 1
    have fr2 := fr 2
    have fr3 := fr 3
    have fr4 := fr 4
    have fr5 := fr 5
    have hq := HQ.out
    have hlb : wr.heap.size ≥ w.heap.size + 2 := by have := HZ.out; have := HB.out.size; omega
    clear rt rr ft fr HQ
    rcases Nat.lt_or_ge i src.size with hlt | hge
    · have hlt' : (i : Int) < (src.size : Int) := by omega
      have hd := drop_lt hlt
      rw [hd] at hq
      obtain ⟨c, hc⟩ : ∃ c, c = src[i] := ⟨_, rfl⟩
      rw [← hc] at hq
      have hc8 : c.toNat < 256 := c.toNat_lt
      by_cases h34 : c.toNat = 34
      · rw [q34 h34] at hq
        have c34 : (src[i].toNat : Int) = 34 := by rw [← hc]; omega
        have HE := hid (show tokL (dropB src n) ln n = (⟨2, bytesOf bs, 0, n, ln⟩, i + 1) by rw [HT.out, ← hq]; rfl)
        have hge' : ¬ (src.size : Int) ≤ (i : Int) := by omega
        have hcv := own_string (P := Try.prog) (dst := 9) Try.underlying22 Try.underlying5 Try.underlying9 (own_setCell HO.out (p := ⟨w.heap.size, 0, none⟩) (by
          intro e
          rcases own_base' HO.out with h | ⟨b, h, hb⟩
          · rw [h] at e; cases e
          · rw [h] at e; injection e with e; have e' : w.heap.size = b := e; have := HZ.out; omega) (.int .i64 2))
        rw [strOf_intsB] at hcv
        clear hq hd hc h34 HO HB HZ RT RR
        go_wp2_with fail
        exact bodyPost_ret (v := .agg #[.int .i64 2, .string (bytesOf bs), .int .i64 0, .int .i64 (n : Nat), .bool ln, .int .i64 ((i + 1 : Nat) : Int)]) (by simp [results, Try.results31, go_sem, r0, r1, r2, r3, r4, r5]) rfl ⟨by rw [HE.out]; rfl, ((((((((HBW.out.setCell (by simp) _).setCell (by simp) _).setCell (by simp) _).setCell (by simp) _).setCell (by simp) _).setCell (by simp) _).setCell (by simp) _).setCell (by simp) _)⟩
      · have c34 : ((src[i].toNat : Int) != 34) = true := by rw [← hc]; simp; omega
        by_cases h92 : c.toNat = 92
        · have c92 : (src[i].toNat : Int) = 92 := by rw [← hc]; omega
          rcases Nat.lt_or_ge (i + 1) src.size with hl2 | hg2
          · have hl2' : (i : Int) + 1 < (src.size : Int) := by omega
            rw [drop_lt hl2] at hq
            obtain ⟨d, hdd⟩ : ∃ d, d = src[i + 1] := ⟨_, rfl⟩
            rw [← hdd] at hq
            have hd8 : d.toNat < 256 := d.toNat_lt
            by_cases d34 : d.toNat = 34
            · rw [q92q h92 (.inl d34), hdd] at hq
              have e34 : (src[i + 1].toNat : Int) = 34 := by rw [← hdd]; omega
              clear hd hc hdd h92 h34 d34
              have HQ2 := hid hq
              clear hq HT r0 r1 r2 r3 r4 r5 t0 t1 t2 t3 t4 ft0 ft1 fr0 fr1 fr2 fr3 fr4 fr5
              go_wp2_with (at_builtin; refine print_append_num (w0 := W0) W0.heap.size rfl _ _ 22 5 .u8 1 rfl Try.underlying22 infoU8 (by decide) _ (intsB bs) 34 rfl rfl (by rw [show (intsB bs).length = bs.length by simp [intsB]]; exact HO.out) HB.out HB.out.size (by rw [show (intsB bs).length = bs.length by simp [intsB]]; omega) ?_; intro v1 w1 hown hb1 _ _; have HO1 : Box (w1.ownsRow W0.heap.size 5 1 v1 (bs ++ [src[i + 1]]).length (nums .u8 (intsB (bs ++ [src[i + 1]])))) := hid (by have := hown; simp only [intsB, List.map_append, List.map_cons, List.map_nil, List.length_append, List.length_map, List.length_cons, List.length_nil] at this ⊢; rw [e34]; exact this); have HB1 := hid hb1; clear hown hb1)
              go_roundw
              case rel => exact ⟨i + 2, bs ++ [src[i + 1]], by omega, by omega, by simp; omega, by go_num, HQ2, HO1, HB1⟩
              case measure => simp [RowKit.intOf]; omega
            · by_cases d92 : d.toNat = 92
              · rw [q92q h92 (.inr d92), hdd] at hq
                have e92 : (src[i + 1].toNat : Int) = 92 := by rw [← hdd]; omega
                clear hd hc hdd h92 h34 d34 d92
                have HQ2 := hid hq
                clear hq HT r0 r1 r2 r3 r4 r5 t0 t1 t2 t3 t4 ft0 ft1 fr0 fr1 fr2 fr3 fr4 fr5
                go_wp2_with (at_builtin; refine print_append_num (w0 := W0) W0.heap.size rfl _ _ 22 5 .u8 1 rfl Try.underlying22 infoU8 (by decide) _ (intsB bs) 92 rfl rfl (by rw [show (intsB bs).length = bs.length by simp [intsB]]; exact HO.out) HB.out HB.out.size (by rw [show (intsB bs).length = bs.length by simp [intsB]]; omega) ?_; intro v1 w1 hown hb1 _ _; have HO1 : Box (w1.ownsRow W0.heap.size 5 1 v1 (bs ++ [src[i + 1]]).length (nums .u8 (intsB (bs ++ [src[i + 1]])))) := hid (by have := hown; simp only [intsB, List.map_append, List.map_cons, List.map_nil, List.length_append, List.length_map, List.length_cons, List.length_nil] at this ⊢; rw [e92]; exact this); have HB1 := hid hb1; clear hown hb1)
                go_roundw
                case rel => exact ⟨i + 2, bs ++ [src[i + 1]], by omega, by omega, by simp; omega, by go_num, HQ2, HO1, HB1⟩
                case measure => simp [RowKit.intOf]; omega
              · have e34 : ((src[i + 1].toNat : Int) == 34) = false := by rw [← hdd]; simp; omega
                have e92 : ((src[i + 1].toNat : Int) == 92) = false := by rw [← hdd]; simp; omega
                by_cases d110 : d.toNat = 110
                · rw [q92l h92 d110] at hq
                  have e110 : (src[i + 1].toNat : Int) = 110 := by rw [← hdd]; omega
                  clear hd hc hdd h92 h34 d34 d92 d110
                  have HQ2 := hid hq
                  clear hq HT r0 r1 r2 r3 r4 r5 t0 t1 t2 t3 t4 ft0 ft1 fr0 fr1 fr2 fr3 fr4 fr5
                  go_wp2_with (at_builtin; refine print_append_num (w0 := W0) W0.heap.size rfl _ _ 22 5 .u8 1 rfl Try.underlying22 infoU8 (by decide) _ (intsB bs) 10 rfl rfl (by rw [show (intsB bs).length = bs.length by simp [intsB]]; exact HO.out) HB.out HB.out.size (by rw [show (intsB bs).length = bs.length by simp [intsB]]; omega) ?_; intro v1 w1 hown hb1 _ _; have HO1 : Box (w1.ownsRow W0.heap.size 5 1 v1 (bs ++ [10]).length (nums .u8 (intsB (bs ++ [10])))) := hid (by have := hown; simp only [intsB, List.map_append, List.map_cons, List.map_nil, List.length_append, List.length_map, List.length_cons, List.length_nil] at this ⊢; exact this); have HB1 := hid hb1; clear hown hb1)
                  go_roundw
                  case rel => exact ⟨i + 2, bs ++ [10], by omega, by omega, by simp; omega, by go_num, HQ2, HO1, HB1⟩
                  case measure => simp [RowKit.intOf]; omega
                · rw [q92b h92 ⟨d34, d92, d110⟩] at hq
                  have e110 : ((src[i + 1].toNat : Int) == 110) = false := by rw [← hdd]; simp; omega
                  clear hd hc hdd h92 h34 d34 d92 d110
                  have HE := hid (show tokL (dropB src n) ln n = (⟨6, ⟨#[]⟩, 0, n, ln⟩, i + 1) by rw [HT.out, ← hq]; rfl)
                  clear hq HO HB HZ RT RR
                  go_wp2_with fail
                  exact bodyPost_ret (v := .agg #[.int .i64 6, .string ⟨#[]⟩, .int .i64 0, .int .i64 (n : Nat), .bool ln, .int .i64 ((i + 1 : Nat) : Int)]) (by simp [results, Try.results31, go_sem, r0, r1, r2, r3, r4, r5]) rfl ⟨by rw [HE.out]; rfl, (((((((HBW.out.setCell (by simp) _).setCell (by simp) _).setCell (by simp) _).setCell (by simp) _).setCell (by simp) _).setCell (by simp) _))⟩
          · have hl2' : ¬ (i : Int) + 1 < (src.size : Int) := by omega
            rw [drop_ge hg2, q92n h92] at hq
            have c32 : ¬ (src[i].toNat : Int) < 32 := by omega
            have c126 : ¬ (126 : Int) < (src[i].toNat : Int) := by omega
            clear hd hc h92 h34
            have HE := hid (show tokL (dropB src n) ln n = (⟨6, ⟨#[]⟩, 0, n, ln⟩, i) by rw [HT.out, ← hq]; rfl)
            clear hq HO HB HZ RT RR
            go_wp2_with fail
            exact bodyPost_ret (v := .agg #[.int .i64 6, .string ⟨#[]⟩, .int .i64 0, .int .i64 (n : Nat), .bool ln, .int .i64 ((i : Nat) : Int)]) (by simp [results, Try.results31, go_sem, r0, r1, r2, r3, r4, r5]) rfl ⟨by rw [HE.out]; rfl, (((((((HBW.out.setCell (by simp) _).setCell (by simp) _).setCell (by simp) _).setCell (by simp) _).setCell (by simp) _).setCell (by simp) _))⟩
        · have c92 : ((src[i].toNat : Int) == 92) = false := by rw [← hc]; simp; omega
          by_cases h32 : c.toNat < 32
          · rw [qctl ⟨h34, h92⟩ (.inl h32)] at hq
            have c32 : (src[i].toNat : Int) < 32 := by rw [← hc]; omega
            clear hd hc h92 h34
            have HE := hid (show tokL (dropB src n) ln n = (⟨6, ⟨#[]⟩, 0, n, ln⟩, i) by rw [HT.out, ← hq]; rfl)
            clear hq HO HB HZ RT RR
            go_wp2_with fail
            exact bodyPost_ret (v := .agg #[.int .i64 6, .string ⟨#[]⟩, .int .i64 0, .int .i64 (n : Nat), .bool ln, .int .i64 ((i : Nat) : Int)]) (by simp [results, Try.results31, go_sem, r0, r1, r2, r3, r4, r5]) rfl ⟨by rw [HE.out]; rfl, (((((((HBW.out.setCell (by simp) _).setCell (by simp) _).setCell (by simp) _).setCell (by simp) _).setCell (by simp) _).setCell (by simp) _))⟩
          · have c32 : ¬ (src[i].toNat : Int) < 32 := by rw [← hc]; omega
            by_cases h126 : 126 < c.toNat
            · rw [qctl ⟨h34, h92⟩ (.inr h126)] at hq
              have c126 : (126 : Int) < (src[i].toNat : Int) := by rw [← hc]; omega
              clear hd hc h92 h34
              have HE := hid (show tokL (dropB src n) ln n = (⟨6, ⟨#[]⟩, 0, n, ln⟩, i) by rw [HT.out, ← hq]; rfl)
              clear hq HO HB HZ RT RR
              go_wp2_with fail
              exact bodyPost_ret (v := .agg #[.int .i64 6, .string ⟨#[]⟩, .int .i64 0, .int .i64 (n : Nat), .bool ln, .int .i64 ((i : Nat) : Int)]) (by simp [results, Try.results31, go_sem, r0, r1, r2, r3, r4, r5]) rfl ⟨by rw [HE.out]; rfl, (((((((HBW.out.setCell (by simp) _).setCell (by simp) _).setCell (by simp) _).setCell (by simp) _).setCell (by simp) _).setCell (by simp) _))⟩
            · rw [qok ⟨h34, h92⟩ ⟨h32, h126⟩, hc] at hq
              have c126 : ¬ (126 : Int) < (src[i].toNat : Int) := by rw [← hc]; omega
              clear hd hc h92 h34
              have HQ2 := hid hq
              clear hq HT r0 r1 r2 r3 r4 r5 t0 t1 t2 t3 t4 ft0 ft1 fr0 fr1 fr2 fr3 fr4 fr5
              go_wp2_with (at_builtin; refine print_append_num (w0 := W0) W0.heap.size rfl _ _ 22 5 .u8 1 rfl Try.underlying22 infoU8 (by decide) _ (intsB bs) (src[i].toNat : Nat) rfl rfl (by rw [show (intsB bs).length = bs.length by simp [intsB]]; exact HO.out) HB.out HB.out.size (by rw [show (intsB bs).length = bs.length by simp [intsB]]; omega) ?_; intro v1 w1 hown hb1 _ _; have HO1 : Box (w1.ownsRow W0.heap.size 5 1 v1 (bs ++ [src[i]]).length (nums .u8 (intsB (bs ++ [src[i]])))) := hid (by have := hown; simp only [intsB, List.map_append, List.map_cons, List.map_nil, List.length_append, List.length_map, List.length_cons, List.length_nil] at this ⊢; exact this); have HB1 := hid hb1; clear hown hb1)
              go_roundw
              case rel => exact ⟨i + 1, bs ++ [src[i]], by omega, by omega, by simp; omega, by go_num, HQ2, HO1, HB1⟩
              case measure => simp [RowKit.intOf]; omega
    · obtain rfl : i = src.size := by omega
      rw [drop_ge (Nat.le_refl _)] at hq
      have HE := hid (show tokL (dropB src n) ln n = (⟨6, ⟨#[]⟩, 0, n, ln⟩, src.size) by rw [HT.out, ← hq]; rfl)
      clear hq HO HB HZ RT RR
      go_wp2_with fail
      exact bodyPost_ret (v := .agg #[.int .i64 6, .string ⟨#[]⟩, .int .i64 0, .int .i64 (n : Nat), .bool ln, .int .i64 ((src.size : Nat) : Int)]) (by simp [results, Try.results31, go_sem, r0, r1, r2, r3, r4, r5]) rfl ⟨by rw [HE.out]; rfl, (((((((HBW.out.setCell (by simp) _).setCell (by simp) _).setCell (by simp) _).setCell (by simp) _).setCell (by simp) _).setCell (by simp) _))⟩
end
open Go.Proofs.YtibepkblgliooaaW.PrintWords
def wordsT : List ByteArray := wordsL.map bytesOf
def signsT : List ByteArray := signsL.map bytesOf
theorem any_in (s : ByteArray) : wordsT.any (fun x => beqB x s) = inL wordsL s.data.toList := by
  unfold wordsT inL beqB
  rw [List.any_map]
  rfl
section
variable {w : World}
set_option maxRecDepth 100000 in
set_option maxHeartbeats 1600000 in
theorem words_c : Calls Try.prog 49 #[] w fun e w' => ∃ b, e = .returned (.slice (some ⟨b, 0, none⟩) wordsT.length wordsT.length) ∧ TextsAt w' b wordsT ∧ Below w.heap.size w w' := by
  go_enter Try.func49, Try.ntmps49
  go_wp2_with fail
  go_ret
  exact ⟨w.heap.size, rfl, texts_new w wordsT _, (Below.refl _ _).alloc (Nat.le_refl _) _⟩
set_option maxRecDepth 100000 in
set_option maxHeartbeats 1600000 in
theorem signs_c : Calls Try.prog 34 #[] w fun e w' => ∃ b, e = .returned (.slice (some ⟨b, 0, none⟩) signsT.length signsT.length) ∧ TextsAt w' b signsT ∧ Below w.heap.size w w' ∧ w.heap.size ≤ b := by
  go_enter Try.func34, Try.ntmps34
  go_wp2_with fail
  go_ret
  exact ⟨w.heap.size, rfl, texts_new w signsT _, (Below.refl _ _).alloc (Nat.le_refl _) _, Nat.le_refl _⟩
set_option maxRecDepth 100000 in
theorem isWord_c (s : ByteArray) : Calls Try.prog 33 #[.string s] w fun e w' => e = .returned (.bool (inL wordsL s.data.toList)) ∧ Below w.heap.size w w' := by
  have HW := hid (any_in s)
  go_enter Try.func33, Try.ntmps33
  go_wp2_with fail
  refine (words_c).mono ?_
  rintro e w1 ⟨b, rfl, hT, hB⟩
  go_wp2_with fail
  refine (in_rc hT (by decide) s).mono ?_
  rintro e w2 ⟨rfl, rfl⟩
  go_wp2_with fail
  go_ret
  exact ⟨ret_bool HW.out.symm, hB⟩
end
end Go.Proofs.Ytibepkblgliooaa.Q
