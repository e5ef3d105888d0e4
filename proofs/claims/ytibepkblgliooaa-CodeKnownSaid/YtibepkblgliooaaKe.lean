/- What a proof further on needs (part e). -/
import Derived.BigQuiet
import Derived.Deep.QuietTactic
import Derived.Test.YtibepkblgliooaaKc
import Derived.Test.YtibepkblgliooaaKd
set_option linter.unusedVariables false
namespace Go.Proofs.Ytibepkblgliooaa.Q
open Go.RowKit
open Go.Proofs.YtibepkblgliooaaW.PrintWords
theorem blanks_drop (c : Bool) (l : List UInt8) (ln : Bool) (n : Nat) : (blanksL c l ln n).1 = l.drop ((blanksL c l ln n).2.2 - n) := by
  have key : ∀ (c : Bool) (x : UInt8) (r : List UInt8) (ln : Bool) (n : Nat), (blanksL c r ln (n + 1)).1 = r.drop ((blanksL c r ln (n + 1)).2.2 - (n + 1)) → (blanksL c r ln (n + 1)).1 = (x :: r).drop ((blanksL c r ln (n + 1)).2.2 - n) := fun c x r ln n h => by
    have := blanks_le c r ln (n + 1)
    rw [show (blanksL c r ln (n + 1)).2.2 - n = ((blanksL c r ln (n + 1)).2.2 - (n + 1)) + 1 by omega, List.drop_succ_cons]
    exact h
  fun_induction blanksL c l ln n <;> (try simp) <;> (first | exact key _ _ _ _ _ (by assumption) | skip)
theorem tok_eq {src : ByteArray} {n m : Nat} {r : List UInt8} {ln : Bool} (hn : n ≤ src.size) (h : blanksL false (dropB src n) false n = (r, ln, m)) : r = dropB src m ∧ n ≤ m ∧ m ≤ src.size ∧ tok src n = tokL (dropB src m) ln m := by
  have h1 := blanks_drop false (dropB src n) false n
  have h2 := blanks_le false (dropB src n) false n
  have h3 := blanks_len false (dropB src n) false n
  rw [h] at h1 h2 h3
  dsimp only at h1 h2 h3
  have hr : r = dropB src m := by
    rw [h1]; unfold dropB; rw [List.drop_drop]; congr 1; omega
  have hl : (dropB src n).length = src.size - n := by unfold dropB; rw [List.length_drop]; rfl
  refine ⟨hr, h2, by omega, ?_⟩
  unfold tok
  unfold dropB at h
  rw [h, ← hr]
theorem wrapx (a b : Nat) (h : (a : Int) + (b : Int) ≤ 4096) : IntKind.i64.wrap ((a : Int) + (b : Int)) = (a : Int) + (b : Int) := by
  have h0 : (0 : Int) ≤ (a : Int) + (b : Int) := by omega
  generalize (a : Int) + (b : Int) = x at *
  simp only [IntKind.wrap, IntKind.bits, IntKind.signed]
  simp only [show (2 : Int) ^ 64 = 18446744073709551616 by decide, show (2 : Int) ^ (64 - 1) = 9223372036854775808 by decide]
  rw [if_neg (by simp; omega)]
  omega
theorem tok_end (ln : Bool) (m : Nat) : tokL [] ln m = (⟨0, ⟨#[]⟩, 0, m, ln⟩, m) := rfl
theorem tok_let {src : ByteArray} {m : Nat} (ln : Bool) (hm : m < src.size) (hd : digitB src[m] = false) (hq : src[m].toNat ≠ 34) (hl : letterB src[m] = true) {K : Nat} (hK : wordL (dropB src m) 0 = K) :
    tokL (dropB src m) ln m = (⟨if inL wordsL (src.extract m (m + K)).data.toList then 4 else 3, src.extract m (m + K), 0, m, ln⟩, m + K) := by
  have h1 : src.extract m (m + K) = bytesOf ((src[m] :: dropB src (m + 1)).take K) := by rw [extract_take, drop_lt hm]; congr 2; omega
  rw [h1]
  rw [drop_lt hm] at hK ⊢
  unfold tokL
  simp only [hd, beq_nat, hq, hl, hK, Bool.false_eq_true, if_false, decide_false, if_true]
  rfl
def signT (m : Nat) (ln : Bool) : Option (List UInt8) → Tk × Nat
  | none => (⟨6, ⟨#[]⟩, 0, m, ln⟩, m)
  | some x => (⟨5, bytesOf x, 0, m, ln⟩, m + x.length)
theorem tok_sign {src : ByteArray} {m : Nat} (ln : Bool) (hm : m < src.size) (hd : digitB src[m] = false) (hq : src[m].toNat ≠ 34) (hl : letterB src[m] = false) {R : Option (List UInt8)} (hR : signL signsL (dropB src m) = R) :
    tokL (dropB src m) ln m = signT m ln R := by
  rw [drop_lt hm] at hR ⊢
  unfold tokL
  simp only [hd, beq_nat, hq, hl, hR, Bool.false_eq_true, if_false, decide_false]
  cases R <;> rfl
theorem head_iff {src : ByteArray} {m : Nat} (x : List UInt8) : headL x (dropB src m) = true ↔ m + x.length ≤ max m src.size ∧ src.extract m (m + x.length) = bytesOf x := by
  have key : ∀ x l : List UInt8, headL x l = true ↔ x.length ≤ l.length ∧ l.take x.length = x := by
    intro x
    induction x with
    | nil => intro l; simp [headL]
    | cons a x ih =>
      intro l
      cases l with
      | nil => simp [headL]
      | cons b l =>
        rw [headL, Bool.and_eq_true, ih, Nat.beq_eq, UInt8.toNat_inj]
        simp
        constructor
        · rintro ⟨h1, h2, h3⟩; exact ⟨h2, h1.symm, h3⟩
        · rintro ⟨h2, h1, h3⟩; exact ⟨h1.symm, h2, h3⟩
  rw [key, extract_take, show m + x.length - m = x.length by omega]
  have hl : (dropB src m).length = src.size - m := by unfold dropB; rw [List.length_drop]; rfl
  rw [hl]
  have hb : ∀ a b : List UInt8, bytesOf a = bytesOf b ↔ a = b := fun a b => by
    unfold bytesOf
    constructor
    · intro h; injection h with h; simpa using h
    · intro h; rw [h]
  rw [hb]
  constructor
  · rintro ⟨h1, h2⟩; exact ⟨by omega, h2⟩
  · rintro ⟨h1, h2⟩; exact ⟨by omega, h2⟩
section
variable {w : World}
theorem isWord_hit (s : ByteArray) {q : Bool} (hq : inL wordsL s.data.toList = q) : Calls Try.prog 33 #[.string s] w fun e w' => e = .returned (.bool q) ∧ Below w.heap.size w w' := by
  have := isWord_c (w := w) s
  rwa [hq] at this
theorem tokStart (w : World) (cs : Array Value) : Below w.heap.size w ((w.alloc (.cells #[.int .i64 0, .string ⟨#[]⟩, .int .i64 0, .int .i64 0, .bool false, .int .i64 0] 57)).alloc (.cells cs 55)) ∧ ((w.alloc (.cells #[.int .i64 0, .string ⟨#[]⟩, .int .i64 0, .int .i64 0, .bool false, .int .i64 0] 57)).alloc (.cells cs 55)).heap[w.heap.size + 1]? = some (.cells cs 55 (0, 0)) ∧ ((w.alloc (.cells #[.int .i64 0, .string ⟨#[]⟩, .int .i64 0, .int .i64 0, .bool false, .int .i64 0] 57)).alloc (.cells cs 55)).heap[w.heap.size]? = some (.cells #[.int .i64 0, .string ⟨#[]⟩, .int .i64 0, .int .i64 0, .bool false, .int .i64 0] 57 (0, 0)) := by
  refine ⟨((Below.refl _ _).alloc (Nat.le_refl _) _).alloc (by simp) _, ?_, ?_⟩
  · have := heap_alloc_new (w.alloc (.cells #[.int .i64 0, .string ⟨#[]⟩, .int .i64 0, .int .i64 0, .bool false, .int .i64 0] 57)) (.cells cs 55)
    rwa [show (w.alloc (.cells #[.int .i64 0, .string ⟨#[]⟩, .int .i64 0, .int .i64 0, .bool false, .int .i64 0] 57)).heap.size = w.heap.size + 1 by simp] at this
  · rw [heap_alloc_old _ _ (by simp)]; exact heap_alloc_new _ _
set_option maxHeartbeats 3200000 in
set_option maxRecDepth 100000 in
theorem tok_z {src : ByteArray} (hs : src.size ≤ 4096) {m : Nat} {ln : Bool} (hm : m ≤ src.size) {T : Tk × Nat} (hT : T = tokL (dropB src m) ln m)
    (hbl : ∀ w : World, Calls Try.prog 28 #[.string src, .int .i64 0] w fun e w' => e = .returned (.tuple #[.int .i64 (m : Nat), .bool ln]) ∧ w = w') : Calls Try.prog 14 #[.string src, .int .i64 0] w fun e w' => e = .returned (tkV T) ∧ Below w.heap.size w w' := by
  have HT := hid hT
  obtain ⟨hb0, rt, rr⟩ := tokStart w #[.int .i64 0, .string ⟨#[]⟩, .int .i64 0, .int .i64 (m : Nat), .bool ln]
  have HB0 := hid hb0
  have RT := hid rt
  have RR := hid rr
  have HBL := hid (hbl (w.alloc (.cells #[.int .i64 0, .string ⟨#[]⟩, .int .i64 0, .int .i64 0, .bool false, .int .i64 0] 57)))
  clear hT hb0 rt rr hbl
  skip
  skip
  go_enter Try.func14, Try.ntmps14
  rcases Nat.lt_or_ge m src.size with hlt | hge
  · have hlt' : (m : Int) < (src.size : Int) := by omega
    cases hdg : digitB src[m]
    · by_cases hq : src[m].toNat = 34
      · have HDG := hid hdg
        have c34 : (src[m].toNat : Int) = 34 := by omega
        have hd34 : ∀ w : World, Calls Try.prog 29 #[.int .u8 34] w fun e w' => e = .returned (.bool false) ∧ w = w' := fun w => by have := digit_hit (w := w) src[m] hdg; rwa [c34] at this
        have HD34 := hid hd34
        have HC := hid (quoted_c (w := ((w.alloc (.cells #[.int .i64 0, .string ⟨#[]⟩, .int .i64 0, .int .i64 0, .bool false, .int .i64 0] 57)).alloc (.cells #[.int .i64 0, .string ⟨#[]⟩, .int .i64 0, .int .i64 (m : Nat), .bool ln] 55))) (ln := ln) hs hlt hq)
        clear hdg hq hd34
        generalize htk : tokL (dropB src m) ln m = tk at HC HT
        rcases tk with ⟨⟨K, X, U, A, L⟩, E⟩
        clear htk
        go_wp2_with (first | (go_at_call 28; refine HBL.out.mono ?_; rintro e w1 ⟨rfl, rfl⟩) | (go_at_call 29; refine (HD34.out _).mono ?_; rintro e w1 ⟨rfl, rfl⟩))
        refine HC.out.mono ?_
        rintro e w1 ⟨rfl, hb1⟩
        have rr := (hb1.block w.heap.size (by simp; omega)).trans RR.out
        have hbw := HB0.out.trans (hb1.mono HB0.out.size)
        have HBW := hid hbw
        have hlw : w.heap.size + 2 ≤ w1.heap.size := by have := hb1.size; simpa using this
        have r0 := (cell_of_row _ _ 0 _ _ _ rr).trans (b := some (Value.int .i64 0)) rfl
        have fr0 : w1.frozen? ⟨w.heap.size, 0, none⟩ = false := by simp [World.frozen?, rr]
        have r1 := (cell_of_row _ _ 1 _ _ _ rr).trans (b := some (Value.string ⟨#[]⟩)) rfl
        have fr1 : w1.frozen? ⟨w.heap.size, 1, none⟩ = false := by simp [World.frozen?, rr]
        have r2 := (cell_of_row _ _ 2 _ _ _ rr).trans (b := some (Value.int .i64 0)) rfl
        have fr2 : w1.frozen? ⟨w.heap.size, 2, none⟩ = false := by simp [World.frozen?, rr]
        have r3 := (cell_of_row _ _ 3 _ _ _ rr).trans (b := some (Value.int .i64 0)) rfl
        have fr3 : w1.frozen? ⟨w.heap.size, 3, none⟩ = false := by simp [World.frozen?, rr]
        have r4 := (cell_of_row _ _ 4 _ _ _ rr).trans (b := some (Value.bool false)) rfl
        have fr4 : w1.frozen? ⟨w.heap.size, 4, none⟩ = false := by simp [World.frozen?, rr]
        have r5 := (cell_of_row _ _ 5 _ _ _ rr).trans (b := some (Value.int .i64 0)) rfl
        have fr5 : w1.frozen? ⟨w.heap.size, 5, none⟩ = false := by simp [World.frozen?, rr]
        clear rr hb1 hbw
        unfold tkV
        go_wp2_with fail
        exact bodyPost_ret (v := .agg #[.int .i64 K, .string X, .int .i64 U, .int .i64 A, .bool L, .int .i64 E]) (by simp [results, Try.results14, go_sem, r0, r1, r2, r3, r4, r5]) rfl ⟨by rw [HT.out]; rfl, ((((((HBW.out.setCell (by simp) _).setCell (by simp) _).setCell (by simp) _).setCell (by simp) _).setCell (by simp) _).setCell (by simp) _)⟩
      · have HDG := hid hdg
        have c34 : ((src[m].toNat : Int) == 34) = false := by simp; omega
        cases hlt2 : letterB src[m]
      
        · have HLT := hid hlt2
          obtain ⟨R, hR⟩ : ∃ R, signL signsL (dropB src m) = R := ⟨_, rfl⟩
          have HTK := hid (HT.out.trans (tok_sign ln hlt hdg hq hlt2 hR))
          have HR := hid hR
          clear hR hdg hq hlt2 HT
          go_wp2_with (first | (go_at_call 28; refine HBL.out.mono ?_; rintro e w1 ⟨rfl, rfl⟩) | (go_at_call 29; refine (digit_hit _ HDG.out).mono ?_; rintro e w1 ⟨rfl, rfl⟩) | (go_at_call 32; refine (letter_hit _ HLT.out).mono ?_; rintro e w1 ⟨rfl, rfl⟩))
          refine (signs_c).mono ?_
          rintro e w1 ⟨b, rfl, hT1, hb1, hbl⟩
          have hb2 : ¬ b = w.heap.size := by have : w.heap.size + 2 ≤ b := by simpa using hbl
                                             omega
          have hb3 : ¬ b = w.heap.size + 1 := by have : w.heap.size + 2 ≤ b := by simpa using hbl
                                                 omega
          clear hbl
          have rr := (hb1.block w.heap.size (by simp; omega)).trans RR.out
          have rt := (hb1.block (w.heap.size + 1) (by simp)).trans RT.out
          have hbw := HB0.out.trans (hb1.mono HB0.out.size)
          have HBW := hid hbw
          have HT1 := hid hT1
          have RR1 := hid rr
          have RT1 := hid rt
          clear rr rt hb1 hbw hT1
          go_wp2_with fail
          go_loopw [10] (fun x wx => ∃ j : Nat, j ≤ 26 ∧ x = .int .i64 (j : Nat) ∧ Box (signL (signsL.drop j) (dropB src m) = R) ∧ Box (TextsAt wx b signsT) ∧ Box (wx.heap[w.heap.size + 1]? = some (.cells #[.int .i64 0, .string ⟨#[]⟩, .int .i64 0, .int .i64 (m : Nat), .bool ln] 55 (0, 0))) ∧ Box (wx.heap[w.heap.size]? = some (.cells #[.int .i64 0, .string ⟨#[]⟩, .int .i64 0, .int .i64 0, .bool false, .int .i64 0] 57 (0, 0))) ∧ Box (Below w.heap.size w wx)) (fun x _ => 26 - (RowKit.intOf x).toNat)
          case atStart => exact ⟨0, by omega, rfl, HR, HT1, RT1, RR1, HBW⟩
          case round =>
            clear HR HT1 RT1 RR1 HBW
            obtain ⟨j, hj26, rfl, HR, HT1, RT1, RR1, HBW⟩ := hrel
            have rt := RT1.out
            have rr := RR1.out
            have hlw : w.heap.size + 2 ≤ wr.heap.size := by have := (Array.getElem?_eq_some_iff.1 rt).1; omega
            have t0 := (cell_of_row _ _ 0 _ _ _ rt).trans (b := some (Value.int .i64 0)) rfl
            have t1 := (cell_of_row _ _ 1 _ _ _ rt).trans (b := some (Value.string ⟨#[]⟩)) rfl
            have t2 := (cell_of_row _ _ 2 _ _ _ rt).trans (b := some (Value.int .i64 0)) rfl
            have t3 := (cell_of_row _ _ 3 _ _ _ rt).trans (b := some (Value.int .i64 (m : Nat))) rfl
            have t4 := (cell_of_row _ _ 4 _ _ _ rt).trans (b := some (Value.bool ln)) rfl
            have ft0 : wr.frozen? ⟨w.heap.size + 1, 0, none⟩ = false := by simp [World.frozen?, rt]
            have ft1 : wr.frozen? ⟨w.heap.size + 1, 1, none⟩ = false := by simp [World.frozen?, rt]
            have r0 := (cell_of_row _ _ 0 _ _ _ rr).trans (b := some (Value.int .i64 0)) rfl
            have fr0 : wr.frozen? ⟨w.heap.size, 0, none⟩ = false := by simp [World.frozen?, rr]
            have r1 := (cell_of_row _ _ 1 _ _ _ rr).trans (b := some (Value.string ⟨#[]⟩)) rfl
            have fr1 : wr.frozen? ⟨w.heap.size, 1, none⟩ = false := by simp [World.frozen?, rr]
            have r2 := (cell_of_row _ _ 2 _ _ _ rr).trans (b := some (Value.int .i64 0)) rfl
            have fr2 : wr.frozen? ⟨w.heap.size, 2, none⟩ = false := by simp [World.frozen?, rr]
            have r3 := (cell_of_row _ _ 3 _ _ _ rr).trans (b := some (Value.int .i64 0)) rfl
            have fr3 : wr.frozen? ⟨w.heap.size, 3, none⟩ = false := by simp [World.frozen?, rr]
            have r4 := (cell_of_row _ _ 4 _ _ _ rr).trans (b := some (Value.bool false)) rfl
            have fr4 : wr.frozen? ⟨w.heap.size, 4, none⟩ = false := by simp [World.frozen?, rr]
            have r5 := (cell_of_row _ _ 5 _ _ _ rr).trans (b := some (Value.int .i64 0)) rfl
            have fr5 : wr.frozen? ⟨w.heap.size, 5, none⟩ = false := by simp [World.frozen?, rr]
            clear rt rr
            rcases Nat.lt_or_ge j 26 with hj | hj
            · have hj' : (j : Int) < 26 := by omega
              obtain ⟨y, hy⟩ : ∃ y, signsL[j]? = some y := ⟨_, List.getElem?_eq_getElem hj⟩
              have hx : signsT[j]? = some (bytesOf y) := by unfold signsT; rw [List.getElem?_map, hy]; rfl
              have hdr : signsL.drop j = y :: signsL.drop (j + 1) := by
                obtain ⟨h1, h2⟩ := List.getElem?_eq_some_iff.1 hy
                rw [← h2]; exact List.drop_eq_getElem_cons h1
              have hyl : (bytesOf y).size = y.length := by unfold bytesOf; exact List.size_toArray
              have hy3 : y.length ≤ 3 := by
                have : ∀ x ∈ signsL, x.length ≤ 3 := by decide
                exact this y (List.mem_of_getElem? hy)
              have hcx := HT1.out j _ hx
              have hr := HR.out
              rw [hdr] at hr
              have hh := head_iff (src := src) (m := m) y
              rw [← hyl] at hh hy3
              have hyb : signT m ln (some y) = (⟨5, bytesOf y, 0, m, ln⟩, m + (bytesOf y).size) := by unfold signT; rw [hyl]
              generalize bytesOf y = x at hx hcx hh hy3 hyb
              have HYB := hid hyb
              have hjl : (j : Int) < ((signsT.length : Nat) : Int) := by have : signsT.length = 26 := rfl; omega
              have hm0 : (m : Int) ≤ (m : Int) + (x.size : Int) := by omega
              clear hx hdr hyl hyb hy
              cases hq : headL y (dropB src m)
              · have HR2 : Box (signL (signsL.drop (j + 1)) (dropB src m) = R) := hid (by rw [signL, hq] at hr; exact hr)
                rcases Nat.lt_or_ge src.size (m + x.size) with hgt | hle
                · have hgt' : ¬ (m : Int) + (x.size : Int) ≤ (src.size : Int) := by omega
                  have hgn : ¬ m + x.size ≤ src.size := by omega
                  have hd1 : decide ((m : Int) + (x.size : Int) ≤ (src.size : Int)) = false := decide_eq_false hgt'
                  have hd2 : decide (m + x.size ≤ src.size) = false := decide_eq_false hgn
                  clear hh hr hq HR
                  go_wp2_with fail
                  go_quiet (fail)
                  go_wp2_with fail
                  go_roundw
                  case rel => exact ⟨j + 1, by omega, by go_num, HR2, hid (HT1.out.drewN _), RT1, RR1, hid (pw_below_drewN HBW.out _)⟩
                  case measure => simp [RowKit.intOf]; omega
                · have hle' : (m : Int) + (x.size : Int) ≤ (src.size : Int) := by omega
                  have hne : ((src.extract m (m + x.size)).toList == x.toList) = false := by
                    rw [toList_beq]
                    cases hb : beqB (src.extract m (m + x.size)) x
                    · rfl
                    · have := hh.2 ⟨by omega, (beqB_iff _ _).1 hb⟩
                      rw [hq] at this; cases this
                  clear hh hr hq HR
                  go_wp2_with fail
                  go_quiet (fail)
                  go_wp2_with fail
                  go_roundw
                  case rel => exact ⟨j + 1, by omega, by go_num, HR2, hid (HT1.out.drewN _), RT1, RR1, hid (pw_below_drewN HBW.out _)⟩
                  case measure => simp [RowKit.intOf]; omega
              · have hR : R = some y := by rw [signL, hq] at hr; exact hr.symm
                obtain ⟨hle0, hex⟩ := hh.1 hq
                have hle' : (m : Int) + (x.size : Int) ≤ (src.size : Int) := by omega
                have hne : ((src.extract m (m + x.size)).toList == x.toList) = true := by
                  rw [toList_beq, hex]; exact (beqB_iff _ _).2 rfl
                have HE := hid (show T = (⟨5, x, 0, m, ln⟩, m + x.size) by rw [HTK.out, hR]; exact HYB.out)
                have HRET := hid (show Ending.returned (Value.agg #[.int .i64 5, .string x, .int .i64 0, .int .i64 (m : Nat), .bool ln, .int .i64 ((m : Int) + (x.size : Int))]) = .returned (tkV T) by rw [HE.out]; unfold tkV; rw [Int.natCast_add])
                clear hh hr hq HR hR hex hle0
                go_wp2_with fail
                go_quiet (fail)
                go_wp2_with fail
                have rt2 := blk_put (blk_put (show (wr.drewN nq).heap[w.heap.size + 1]? = some (.cells #[.int .i64 0, .string ⟨#[]⟩, .int .i64 0, .int .i64 (m : Nat), .bool ln] 55 (0, 0)) from RT1.out) 0 (.int .i64 5) (cs' := #[.int .i64 5, .string ⟨#[]⟩, .int .i64 0, .int .i64 (m : Nat), .bool ln]) rfl) 1 (.string x) (cs' := #[.int .i64 5, .string x, .int .i64 0, .int .i64 (m : Nat), .bool ln]) rfl
                have keep : ∀ k, k ≠ w.heap.size + 1 → (((wr.drewN nq).setCell ⟨w.heap.size + 1, 0, none⟩ (.int .i64 5)).setCell ⟨w.heap.size + 1, 1, none⟩ (.string x)).heap[k]? = wr.heap[k]? := fun k hk => (Below.heap_setCell _ ⟨w.heap.size + 1, 1, none⟩ (.string x) k hk).trans (Below.heap_setCell (wr.drewN nq) ⟨w.heap.size + 1, 0, none⟩ (.int .i64 5) k hk)
                have rr := (keep w.heap.size (by omega)).trans RR1.out
                have yb : (((wr.drewN nq).setCell ⟨w.heap.size + 1, 0, none⟩ (.int .i64 5)).setCell ⟨w.heap.size + 1, 1, none⟩ (.string x)).cell? ⟨b, j, none⟩ = some (.string x) := by
                  simpa [World.cell?, keep b hb3] using hcx
                have hb4 := ((pw_below_drewN HBW.out nq).setCell (p := ⟨w.heap.size + 1, 0, none⟩) (by simp) (.int .i64 5)).setCell (p := ⟨w.heap.size + 1, 1, none⟩) (by simp) (.string x)
                have HB4 := hid hb4
                have hxm : (m : Int) + (x.size : Int) ≤ 4096 := by omega
                have HWR := hid (wrapx m x.size hxm)
                clear hb4 keep t0 t1 t2 t3 t4 ft0 ft1 r0 r1 r2 r3 r4 r5 fr0 fr1 fr2 fr3 fr4 fr5 hcx
                generalize (((wr.drewN nq).setCell ⟨w.heap.size + 1, 0, none⟩ (.int .i64 5)).setCell ⟨w.heap.size + 1, 1, none⟩ (.string x)) = W2 at rt2 rr yb HB4 ⊢
                have y0 := (cell_of_row _ _ 0 _ _ _ rt2).trans (b := some (Value.int .i64 5)) rfl
                have y1 := (cell_of_row _ _ 1 _ _ _ rt2).trans (b := some (Value.string x)) rfl
                have y2 := (cell_of_row _ _ 2 _ _ _ rt2).trans (b := some (Value.int .i64 0)) rfl
                have y3 := (cell_of_row _ _ 3 _ _ _ rt2).trans (b := some (Value.int .i64 (m : Nat))) rfl
                have y4 := (cell_of_row _ _ 4 _ _ _ rt2).trans (b := some (Value.bool ln)) rfl
                have r0 := (cell_of_row _ _ 0 _ _ _ rr).trans (b := some (Value.int .i64 0)) rfl
                have fr0 : W2.frozen? ⟨w.heap.size, 0, none⟩ = false := by simp [World.frozen?, rr]
                have r1 := (cell_of_row _ _ 1 _ _ _ rr).trans (b := some (Value.string ⟨#[]⟩)) rfl
                have fr1 : W2.frozen? ⟨w.heap.size, 1, none⟩ = false := by simp [World.frozen?, rr]
                have r2 := (cell_of_row _ _ 2 _ _ _ rr).trans (b := some (Value.int .i64 0)) rfl
                have fr2 : W2.frozen? ⟨w.heap.size, 2, none⟩ = false := by simp [World.frozen?, rr]
                have r3 := (cell_of_row _ _ 3 _ _ _ rr).trans (b := some (Value.int .i64 0)) rfl
                have fr3 : W2.frozen? ⟨w.heap.size, 3, none⟩ = false := by simp [World.frozen?, rr]
                have r4 := (cell_of_row _ _ 4 _ _ _ rr).trans (b := some (Value.bool false)) rfl
                have fr4 : W2.frozen? ⟨w.heap.size, 4, none⟩ = false := by simp [World.frozen?, rr]
                have r5 := (cell_of_row _ _ 5 _ _ _ rr).trans (b := some (Value.int .i64 0)) rfl
                have fr5 : W2.frozen? ⟨w.heap.size, 5, none⟩ = false := by simp [World.frozen?, rr]
                clear rt2 rr
                refine wp_region_until [9] (S := (fun w' => w'.cell? ⟨w.heap.size + 1, 0, none⟩ = some (.int .i64 5) ∧ w'.cell? ⟨w.heap.size + 1, 1, none⟩ = some (.string x) ∧ w'.cell? ⟨w.heap.size + 1, 2, none⟩ = some (.int .i64 0) ∧ w'.cell? ⟨w.heap.size + 1, 3, none⟩ = some (.int .i64 (m : Nat)) ∧ w'.cell? ⟨w.heap.size + 1, 4, none⟩ = some (.bool ln) ∧ w'.cell? ⟨b, j, none⟩ = some (.string x))) (by kernel_rfl) ?_ ?_
                · go_keep
                intro hS
                refine wpAnyU_take (i := 0) (v := (.agg #[.int .i64 5, .string x, .int .i64 0, .int .i64 (m : Nat), .bool ln])) rfl (by kernel_rfl) (fun _ _ _ h => h) (leads_of [[9]] (by kernel_rfl)) (by kernel_rfl) (by kernel_rfl) (by kernel_rfl) (Or.inl ⟨by rfl, ?_⟩) hS ?_
                · intro w' hS'
                  obtain ⟨s0, s1, s2, s3, s4, s5⟩ := hS'
                  go_simp
                change wpAnyU _ _ _ _ _ _ _ _ (Act.put _ (some 125) _) _
                simp only [Act.put, List.setIfInBounds_toArray, List.set_cons_succ, List.set_cons_zero]
                refine wpAnyU_take (i := 1) (v := (.int .i64 (m : Nat))) rfl (by kernel_rfl) (fun _ _ _ h => h) (leads_of [[9]] (by kernel_rfl)) (by kernel_rfl) (by kernel_rfl) (by kernel_rfl) (Or.inl ⟨by rfl, ?_⟩) hS ?_
                · intro w' hS'
                  obtain ⟨s0, s1, s2, s3, s4, s5⟩ := hS'
                  go_simp
                change wpAnyU _ _ _ _ _ _ _ _ (Act.put _ (some 126) _) _
                simp only [Act.put, List.setIfInBounds_toArray, List.set_cons_succ, List.set_cons_zero]
                refine wpAnyU_take (i := 2) (v := (.slice (some ⟨b, 0, none⟩) signsT.length signsT.length)) rfl (by kernel_rfl) (fun _ _ _ h => h) (leads_of [[9]] (by kernel_rfl)) (by kernel_rfl) (by kernel_rfl) (by kernel_rfl) (Or.inl ⟨by rfl, ?_⟩) hS ?_
                · intro w' hS'
                  obtain ⟨s0, s1, s2, s3, s4, s5⟩ := hS'
                  go_simp
                change wpAnyU _ _ _ _ _ _ _ _ (Act.put _ (some 127) _) _
                simp only [Act.put, List.setIfInBounds_toArray, List.set_cons_succ, List.set_cons_zero]
                refine wpAnyU_take (i := 3) (v := (.int .i64 (j : Nat))) rfl (by kernel_rfl) (fun _ _ _ h => h) (leads_of [[9]] (by kernel_rfl)) (by kernel_rfl) (by kernel_rfl) (by kernel_rfl) (Or.inl ⟨by rfl, ?_⟩) hS ?_
                · intro w' hS'
                  obtain ⟨s0, s1, s2, s3, s4, s5⟩ := hS'
                  go_simp
                change wpAnyU _ _ _ _ _ _ _ _ (Act.put _ (some 128) _) _
                simp only [Act.put, List.setIfInBounds_toArray, List.set_cons_succ, List.set_cons_zero]
                refine wpAnyU_take (i := 4) (v := (.pointer (some ⟨b, j, none⟩))) rfl (by kernel_rfl) (fun _ _ _ h => h) (leads_of [[9]] (by kernel_rfl)) (by kernel_rfl) (by kernel_rfl) (by kernel_rfl) (Or.inl ⟨by rfl, ?_⟩) hS ?_
                · intro w' hS'
                  obtain ⟨s0, s1, s2, s3, s4, s5⟩ := hS'
                  go_simp
                change wpAnyU _ _ _ _ _ _ _ _ (Act.put _ (some 129) _) _
                simp only [Act.put, List.setIfInBounds_toArray, List.set_cons_succ, List.set_cons_zero]
                refine wpAnyU_take (i := 5) (v := (.string x)) rfl (by kernel_rfl) (fun _ _ _ h => h) (leads_of [[9]] (by kernel_rfl)) (by kernel_rfl) (by kernel_rfl) (by kernel_rfl) (Or.inl ⟨by rfl, ?_⟩) hS ?_
                · intro w' hS'
                  obtain ⟨s0, s1, s2, s3, s4, s5⟩ := hS'
                  go_simp
                change wpAnyU _ _ _ _ _ _ _ _ (Act.put _ (some 130) _) _
                simp only [Act.put, List.setIfInBounds_toArray, List.set_cons_succ, List.set_cons_zero]
                refine wpAnyU_take (i := 6) (v := (.int .i64 (x.size : Nat))) rfl (by kernel_rfl) (fun _ _ _ h => h) (leads_of [[9]] (by kernel_rfl)) (by kernel_rfl) (by kernel_rfl) (by kernel_rfl) (Or.inl ⟨by rfl, ?_⟩) hS ?_
                · intro w' hS'
                  obtain ⟨s0, s1, s2, s3, s4, s5⟩ := hS'
                  go_simp
                change wpAnyU _ _ _ _ _ _ _ _ (Act.put _ (some 131) _) _
                simp only [Act.put, List.setIfInBounds_toArray, List.set_cons_succ, List.set_cons_zero]
                refine wpAnyU_all (rs := [7]) (by kernel_rfl) (by simp) ?_
                intro j hj
                obtain rfl := List.mem_singleton.1 hj
                clear hj
                refine wpOp_shut rfl (fun K' HK => ?_)
                go_simp
                rw [HWR.out]
                refine HK.out _ _ ⟨.inr hS, ?_⟩
                clear HK K'
                try simp only [Act.put, List.setIfInBounds_toArray, List.set_cons_succ, List.set_cons_zero]
                refine wpAnyU_take (i := 8) (v := (.agg #[.int .i64 5, .string x, .int .i64 0, .int .i64 (m : Nat), .bool ln, .int .i64 ((m : Int) + (x.size : Int))])) rfl (by kernel_rfl) (fun _ _ _ h => h) (leads_of [[9]] (by kernel_rfl)) (by kernel_rfl) (by kernel_rfl) (by kernel_rfl) (Or.inl ⟨by rfl, ?_⟩) hS ?_
                · intro w' hS'
                  obtain ⟨s0, s1, s2, s3, s4, s5⟩ := hS'
                  go_simp
                change wpAnyU _ _ _ _ _ _ _ _ (Act.put _ (some 133) _) _
                simp only [Act.put, List.setIfInBounds_toArray, List.set_cons_succ, List.set_cons_zero]
                refine wpAnyU_all (rs := [9]) (by kernel_rfl) (by simp) ?_
                intro j hj
                obtain rfl := List.mem_singleton.1 hj
                clear hj
                refine wpOp_shut rfl (fun K' HK => ?_)
                go_simp
                refine HK.out _ _ ⟨.inl (by decide), ?_⟩
                clear HK K'
                refine wpAnyU_done (by kernel_rfl) ?_ _
                go_wp2_with fail
                refine bodyPost_ret (v := .agg #[.int .i64 5, .string x, .int .i64 0, .int .i64 (m : Nat), .bool ln, .int .i64 ((m : Int) + (x.size : Int))]) ?_ ?_ ⟨HRET.out, ?_⟩
                · simp [results, Try.results14, go_sem, r0, r1, r2, r3, r4, r5]
                · exact rfl
                · exact ((((((HB4.out.setCell (by simp) _).setCell (by simp) _).setCell (by simp) _).setCell (by simp) _).setCell (by simp) _).setCell (by simp) _).drew
            · obtain rfl : j = 26 := by omega
              have HE := hid (show T = (⟨6, ⟨#[]⟩, 0, m, ln⟩, m) by rw [HTK.out, ← HR.out]; rfl)
              go_wp2_with fail
              exact bodyPost_ret (v := .agg #[.int .i64 6, .string ⟨#[]⟩, .int .i64 0, .int .i64 (m : Nat), .bool ln, .int .i64 (m : Nat)]) (by simp [results, Try.results14, go_sem, r0, r1, r2, r3, r4, r5]) rfl ⟨by rw [HE.out]; rfl, (((((((HBW.out.setCell (by simp) _).setCell (by simp) _).setCell (by simp) _).setCell (by simp) _).setCell (by simp) _).setCell (by simp) _).setCell (by simp) _)⟩
        · have HDL := hid hlt2
          have HDQ := hid hq
          obtain ⟨K, hK⟩ : ∃ K, wordL (dropB src m) 0 = K := ⟨_, rfl⟩
          have htk := tok_let ln hlt hdg hq hlt2 hK
          have hKs : m + K ≤ src.size := by
            have := (word_le (dropB src m) 0).2
            have hl : (dropB src m).length = src.size - m := by unfold dropB; rw [List.length_drop]; rfl
            omega
          have HLT := HDL
          have HTK := hid (HT.out.trans htk)
          have HK := hid hK
          clear htk hK hdg hq hlt2
          go_wp2_with (first | (go_at_call 28; refine HBL.out.mono ?_; rintro e w1 ⟨rfl, rfl⟩) | (go_at_call 29; refine (digit_hit _ HDG.out).mono ?_; rintro e w1 ⟨rfl, rfl⟩) | (go_at_call 32; refine (letter_hit _ HLT.out).mono ?_; rintro e w1 ⟨rfl, rfl⟩))
          go_loop [8] (fun x => ∃ j : Nat, m ≤ j ∧ j ≤ m + K ∧ x = .int .i64 (j : Nat) ∧ Box (wordL (dropB src j) (j - m) = K)) (fun x => src.size - (RowKit.intOf x).toNat)
          case atStart => exact ⟨m, Nat.le_refl _, by omega, rfl, by rw [Nat.sub_self]; exact HK⟩
          case round =>
            clear HK
            obtain ⟨j, hmj, hjK, rfl, HJ⟩ := hrel
            have hj := HJ.out
            rcases Nat.lt_or_ge j src.size with hlj | hgj
            · have hlj' : (j : Int) < (src.size : Int) := by omega
              rw [drop_lt hlj] at hj
              cases hl : letterB src[j]
              · cases hd : digitB src[j]
                · have hjk : m + K = j := by
                    rw [wordL, hl, hd] at hj
                    have : j - m = K := hj
                    omega
                  have HDJ := hid hd
                  have HLJ := hid hl
                  clear hj HJ hl hd
                  have hmj' : (m : Int) ≤ (j : Int) := by omega
                  have hjs : (j : Int) ≤ (src.size : Int) := by omega
                  obtain ⟨hb2, rt2, rr2⟩ := tokStart w #[.int .i64 3, .string (src.extract m j), .int .i64 0, .int .i64 (m : Nat), .bool ln]
                  have RT2 := hid rt2
                  have RR2 := hid rr2
                  have HB2 := hid hb2
                  clear rt2 rr2 hb2
                  obtain ⟨q, hin⟩ : ∃ q, inL wordsL (src.extract m j).data.toList = q := ⟨_, rfl⟩
                  have HTJ := hid (show T = (⟨if q then 4 else 3, src.extract m j, 0, m, ln⟩, j) by rw [HTK.out, hjk, hin])
                  have HIN := hid hin
                  clear hin hjk HTK
                  go_wp2_with (first | (go_at_call 29; refine (digit_hit _ HDJ.out).mono ?_; rintro e w1 ⟨rfl, rfl⟩) | (go_at_call 32; refine (letter_hit _ HLJ.out).mono ?_; rintro e w1 ⟨rfl, rfl⟩))
                  refine (isWord_hit _ HIN.out).mono ?_
                  rintro e w1 ⟨rfl, hb1⟩
                  have rr := (hb1.block w.heap.size (by simp; omega)).trans RR2.out
                  have rt := (hb1.block (w.heap.size + 1) (by simp)).trans RT2.out
                  have hbw := HB2.out.trans (hb1.mono HB2.out.size)
                  have HBW := hid hbw
                  have hlw : w.heap.size + 2 ≤ w1.heap.size := by have := hb1.size; simpa using this
                  have t0 := (cell_of_row _ _ 0 _ _ _ rt).trans (b := some (Value.int .i64 3)) rfl
                  have t1 := (cell_of_row _ _ 1 _ _ _ rt).trans (b := some (Value.string (src.extract m j))) rfl
                  have t2 := (cell_of_row _ _ 2 _ _ _ rt).trans (b := some (Value.int .i64 0)) rfl
                  have t3 := (cell_of_row _ _ 3 _ _ _ rt).trans (b := some (Value.int .i64 (m : Nat))) rfl
                  have t4 := (cell_of_row _ _ 4 _ _ _ rt).trans (b := some (Value.bool ln)) rfl
                  have ft0 : w1.frozen? ⟨w.heap.size + 1, 0, none⟩ = false := by simp [World.frozen?, rt]
                  have ft1 : w1.frozen? ⟨w.heap.size + 1, 1, none⟩ = false := by simp [World.frozen?, rt]
                  have r0 := (cell_of_row _ _ 0 _ _ _ rr).trans (b := some (Value.int .i64 0)) rfl
                  have fr0 : w1.frozen? ⟨w.heap.size, 0, none⟩ = false := by simp [World.frozen?, rr]
                  have r1 := (cell_of_row _ _ 1 _ _ _ rr).trans (b := some (Value.string ⟨#[]⟩)) rfl
                  have fr1 : w1.frozen? ⟨w.heap.size, 1, none⟩ = false := by simp [World.frozen?, rr]
                  have r2 := (cell_of_row _ _ 2 _ _ _ rr).trans (b := some (Value.int .i64 0)) rfl
                  have fr2 : w1.frozen? ⟨w.heap.size, 2, none⟩ = false := by simp [World.frozen?, rr]
                  have r3 := (cell_of_row _ _ 3 _ _ _ rr).trans (b := some (Value.int .i64 0)) rfl
                  have fr3 : w1.frozen? ⟨w.heap.size, 3, none⟩ = false := by simp [World.frozen?, rr]
                  have r4 := (cell_of_row _ _ 4 _ _ _ rr).trans (b := some (Value.bool false)) rfl
                  have fr4 : w1.frozen? ⟨w.heap.size, 4, none⟩ = false := by simp [World.frozen?, rr]
                  have r5 := (cell_of_row _ _ 5 _ _ _ rr).trans (b := some (Value.int .i64 0)) rfl
                  have fr5 : w1.frozen? ⟨w.heap.size, 5, none⟩ = false := by simp [World.frozen?, rr]
                  clear rr rt hb1 hbw RT2 RR2 HB2
                  cases q
                  · go_wp2_with fail
                    exact bodyPost_ret (v := .agg #[.int .i64 3, .string (src.extract m j), .int .i64 0, .int .i64 (m : Nat), .bool ln, .int .i64 (j : Nat)]) (by simp [results, Try.results14, go_sem, r0, r1, r2, r3, r4, r5]) rfl ⟨by rw [HTJ.out]; rfl, ((((((HBW.out.setCell (by simp) _).setCell (by simp) _).setCell (by simp) _).setCell (by simp) _).setCell (by simp) _).setCell (by simp) _)⟩
                  · go_wp2_with fail
                    exact bodyPost_ret (v := .agg #[.int .i64 4, .string (src.extract m j), .int .i64 0, .int .i64 (m : Nat), .bool ln, .int .i64 (j : Nat)]) (by simp [results, Try.results14, go_sem, r0, r1, r2, r3, r4, r5]) rfl ⟨by rw [HTJ.out]; rfl, (((((((HBW.out.setCell (by simp) _).setCell (by simp) _).setCell (by simp) _).setCell (by simp) _).setCell (by simp) _).setCell (by simp) _).setCell (by simp) _)⟩
                · have HJ2 : Box (wordL (dropB src (j + 1)) (j + 1 - m) = K) := hid (by
                    rw [wordL, hl, hd] at hj
                    rw [show j + 1 - m = j - m + 1 by omega]; exact hj)
                  have hjK2 : j + 1 ≤ m + K := by have := (word_le (dropB src (j + 1)) (j + 1 - m)).1; rw [HJ2.out] at this; omega
                  have HDJ := hid hd
                  have HLJ := hid hl
                  clear hj HJ hl hd
                  go_wp2_with (first | (go_at_call 29; refine (digit_hit _ HDJ.out).mono ?_; rintro e w1 ⟨rfl, rfl⟩) | (go_at_call 32; refine (letter_hit _ HLJ.out).mono ?_; rintro e w1 ⟨rfl, rfl⟩))
                  go_round
                  case rel => exact ⟨j + 1, by omega, hjK2, by go_num, HJ2⟩
                  case measure => simp [RowKit.intOf]; omega
              · have HJ2 : Box (wordL (dropB src (j + 1)) (j + 1 - m) = K) := hid (by
                  rw [wordL, hl] at hj
                  rw [show j + 1 - m = j - m + 1 by omega]; exact hj)
                have hjK2 : j + 1 ≤ m + K := by have := (word_le (dropB src (j + 1)) (j + 1 - m)).1; rw [HJ2.out] at this; omega
                have HLJ := hid hl
                clear hj HJ hl
                go_wp2_with (first | (go_at_call 32; refine (letter_hit _ HLJ.out).mono ?_; rintro e w1 ⟨rfl, rfl⟩))
                go_round
                case rel => exact ⟨j + 1, by omega, hjK2, by go_num, HJ2⟩
                case measure => simp [RowKit.intOf]; omega
            · have hlj' : ¬ (j : Int) < (src.size : Int) := by omega
              have hjk : m + K = j := by
                rw [drop_ge hgj] at hj
                have : j - m = K := hj
                omega
              clear hj HJ
              have hmj' : (m : Int) ≤ (j : Int) := by omega
              have hjs : (j : Int) ≤ (src.size : Int) := by omega
              obtain ⟨hb2, rt2, rr2⟩ := tokStart w #[.int .i64 3, .string (src.extract m j), .int .i64 0, .int .i64 (m : Nat), .bool ln]
              have RT2 := hid rt2
              have RR2 := hid rr2
              have HB2 := hid hb2
              clear rt2 rr2 hb2
              obtain ⟨q, hin⟩ : ∃ q, inL wordsL (src.extract m j).data.toList = q := ⟨_, rfl⟩
              have HTJ := hid (show T = (⟨if q then 4 else 3, src.extract m j, 0, m, ln⟩, j) by rw [HTK.out, hjk, hin])
              have HIN := hid hin
              clear hin hjk HTK
              go_wp2_with (first | (go_at_call 29; refine (digit_hit _ HDJ.out).mono ?_; rintro e w1 ⟨rfl, rfl⟩) | (go_at_call 32; refine (letter_hit _ HLJ.out).mono ?_; rintro e w1 ⟨rfl, rfl⟩))
              refine (isWord_hit _ HIN.out).mono ?_
              rintro e w1 ⟨rfl, hb1⟩
              have rr := (hb1.block w.heap.size (by simp; omega)).trans RR2.out
              have rt := (hb1.block (w.heap.size + 1) (by simp)).trans RT2.out
              have hbw := HB2.out.trans (hb1.mono HB2.out.size)
              have HBW := hid hbw
              have hlw : w.heap.size + 2 ≤ w1.heap.size := by have := hb1.size; simpa using this
              have t0 := (cell_of_row _ _ 0 _ _ _ rt).trans (b := some (Value.int .i64 3)) rfl
              have t1 := (cell_of_row _ _ 1 _ _ _ rt).trans (b := some (Value.string (src.extract m j))) rfl
              have t2 := (cell_of_row _ _ 2 _ _ _ rt).trans (b := some (Value.int .i64 0)) rfl
              have t3 := (cell_of_row _ _ 3 _ _ _ rt).trans (b := some (Value.int .i64 (m : Nat))) rfl
              have t4 := (cell_of_row _ _ 4 _ _ _ rt).trans (b := some (Value.bool ln)) rfl
              have ft0 : w1.frozen? ⟨w.heap.size + 1, 0, none⟩ = false := by simp [World.frozen?, rt]
              have ft1 : w1.frozen? ⟨w.heap.size + 1, 1, none⟩ = false := by simp [World.frozen?, rt]
              have r0 := (cell_of_row _ _ 0 _ _ _ rr).trans (b := some (Value.int .i64 0)) rfl
              have fr0 : w1.frozen? ⟨w.heap.size, 0, none⟩ = false := by simp [World.frozen?, rr]
              have r1 := (cell_of_row _ _ 1 _ _ _ rr).trans (b := some (Value.string ⟨#[]⟩)) rfl
              have fr1 : w1.frozen? ⟨w.heap.size, 1, none⟩ = false := by simp [World.frozen?, rr]
              have r2 := (cell_of_row _ _ 2 _ _ _ rr).trans (b := some (Value.int .i64 0)) rfl
              have fr2 : w1.frozen? ⟨w.heap.size, 2, none⟩ = false := by simp [World.frozen?, rr]
              have r3 := (cell_of_row _ _ 3 _ _ _ rr).trans (b := some (Value.int .i64 0)) rfl
              have fr3 : w1.frozen? ⟨w.heap.size, 3, none⟩ = false := by simp [World.frozen?, rr]
              have r4 := (cell_of_row _ _ 4 _ _ _ rr).trans (b := some (Value.bool false)) rfl
              have fr4 : w1.frozen? ⟨w.heap.size, 4, none⟩ = false := by simp [World.frozen?, rr]
              have r5 := (cell_of_row _ _ 5 _ _ _ rr).trans (b := some (Value.int .i64 0)) rfl
              have fr5 : w1.frozen? ⟨w.heap.size, 5, none⟩ = false := by simp [World.frozen?, rr]
              clear rr rt hb1 hbw RT2 RR2 HB2
              cases q
              · go_wp2_with fail
                exact bodyPost_ret (v := .agg #[.int .i64 3, .string (src.extract m j), .int .i64 0, .int .i64 (m : Nat), .bool ln, .int .i64 (j : Nat)]) (by simp [results, Try.results14, go_sem, r0, r1, r2, r3, r4, r5]) rfl ⟨by rw [HTJ.out]; rfl, ((((((HBW.out.setCell (by simp) _).setCell (by simp) _).setCell (by simp) _).setCell (by simp) _).setCell (by simp) _).setCell (by simp) _)⟩
              · go_wp2_with fail
                exact bodyPost_ret (v := .agg #[.int .i64 4, .string (src.extract m j), .int .i64 0, .int .i64 (m : Nat), .bool ln, .int .i64 (j : Nat)]) (by simp [results, Try.results14, go_sem, r0, r1, r2, r3, r4, r5]) rfl ⟨by rw [HTJ.out]; rfl, (((((((HBW.out.setCell (by simp) _).setCell (by simp) _).setCell (by simp) _).setCell (by simp) _).setCell (by simp) _).setCell (by simp) _).setCell (by simp) _)⟩
    · have HDG := hid hdg
      have HC := hid (number_c (w := ((w.alloc (.cells #[.int .i64 0, .string ⟨#[]⟩, .int .i64 0, .int .i64 0, .bool false, .int .i64 0] 57)).alloc (.cells #[.int .i64 0, .string ⟨#[]⟩, .int .i64 0, .int .i64 (m : Nat), .bool ln] 55))) (ln := ln) hs hlt hdg)
      clear hdg
      generalize htk : tokL (dropB src m) ln m = tk at HC HT
      rcases tk with ⟨⟨K, X, U, A, L⟩, E⟩
      clear htk
      go_wp2_with (first | (go_at_call 28; refine HBL.out.mono ?_; rintro e w1 ⟨rfl, rfl⟩) | (go_at_call 29; refine (digit_hit _ HDG.out).mono ?_; rintro e w1 ⟨rfl, rfl⟩))
      refine HC.out.mono ?_
      rintro e w1 ⟨rfl, hb1⟩
      have rr := (hb1.block w.heap.size (by simp; omega)).trans RR.out
      have hbw := HB0.out.trans (hb1.mono HB0.out.size)
      have HBW := hid hbw
      have hlw : w.heap.size + 2 ≤ w1.heap.size := by have := hb1.size; simpa using this
      have r0 := (cell_of_row _ _ 0 _ _ _ rr).trans (b := some (Value.int .i64 0)) rfl
      have fr0 : w1.frozen? ⟨w.heap.size, 0, none⟩ = false := by simp [World.frozen?, rr]
      have r1 := (cell_of_row _ _ 1 _ _ _ rr).trans (b := some (Value.string ⟨#[]⟩)) rfl
      have fr1 : w1.frozen? ⟨w.heap.size, 1, none⟩ = false := by simp [World.frozen?, rr]
      have r2 := (cell_of_row _ _ 2 _ _ _ rr).trans (b := some (Value.int .i64 0)) rfl
      have fr2 : w1.frozen? ⟨w.heap.size, 2, none⟩ = false := by simp [World.frozen?, rr]
      have r3 := (cell_of_row _ _ 3 _ _ _ rr).trans (b := some (Value.int .i64 0)) rfl
      have fr3 : w1.frozen? ⟨w.heap.size, 3, none⟩ = false := by simp [World.frozen?, rr]
      have r4 := (cell_of_row _ _ 4 _ _ _ rr).trans (b := some (Value.bool false)) rfl
      have fr4 : w1.frozen? ⟨w.heap.size, 4, none⟩ = false := by simp [World.frozen?, rr]
      have r5 := (cell_of_row _ _ 5 _ _ _ rr).trans (b := some (Value.int .i64 0)) rfl
      have fr5 : w1.frozen? ⟨w.heap.size, 5, none⟩ = false := by simp [World.frozen?, rr]
      clear rr hb1 hbw
      unfold tkV
      go_wp2_with fail
      exact bodyPost_ret (v := .agg #[.int .i64 K, .string X, .int .i64 U, .int .i64 A, .bool L, .int .i64 E]) (by simp [results, Try.results14, go_sem, r0, r1, r2, r3, r4, r5]) rfl ⟨by rw [HT.out]; rfl, ((((((HBW.out.setCell (by simp) _).setCell (by simp) _).setCell (by simp) _).setCell (by simp) _).setCell (by simp) _).setCell (by simp) _)⟩
  · obtain rfl : m = src.size := by omega
    have HE := hid (show T = (⟨0, ⟨#[]⟩, 0, src.size, ln⟩, src.size) by rw [HT.out, drop_ge (Nat.le_refl _), tok_end])
    clear HT
    go_wp2_with (first | (go_at_call 28; refine HBL.out.mono ?_; rintro e w1 ⟨rfl, rfl⟩))
    exact bodyPost_ret (v := .agg #[.int .i64 0, .string ⟨#[]⟩, .int .i64 0, .int .i64 (src.size : Nat), .bool ln, .int .i64 (src.size : Nat)]) (by simp [results, Try.results14, go_sem]) rfl ⟨by rw [HE.out]; rfl, ((Below.refl _ _).alloc (Nat.le_refl _) _).alloc (by simp) _⟩
set_option maxHeartbeats 3200000 in
set_option maxRecDepth 100000 in
theorem tok_p {src : ByteArray} {n : Nat} (hn : n ≤ src.size) (hpos : 0 < n) (hs : src.size ≤ 4096) {m : Nat} {ln : Bool} (hm : m ≤ src.size) {T : Tk × Nat} (hT : T = tokL (dropB src m) ln m)
    (hbl : ∀ w : World, Calls Try.prog 28 #[.string src, .int .i64 (n : Nat)] w fun e w' => e = .returned (.tuple #[.int .i64 (m : Nat), .bool ln]) ∧ w = w') : Calls Try.prog 14 #[.string src, .int .i64 (n : Nat)] w fun e w' => e = .returned (tkV T) ∧ Below w.heap.size w w' := by
  have HT := hid hT
  obtain ⟨hb0, rt, rr⟩ := tokStart w #[.int .i64 0, .string ⟨#[]⟩, .int .i64 0, .int .i64 (m : Nat), .bool ln]
  have HB0 := hid hb0
  have RT := hid rt
  have RR := hid rr
  have HBL := hid (hbl (w.alloc (.cells #[.int .i64 0, .string ⟨#[]⟩, .int .i64 0, .int .i64 0, .bool false, .int .i64 0] 57)))
  clear hT hb0 rt rr hbl
  have h2 : (0 : Int) ≤ (n : Int) := by omega
  have h1 : (n : Int) ≤ (src.size : Int) := by omega
  go_enter Try.func14, Try.ntmps14
  rcases Nat.lt_or_ge m src.size with hlt | hge
  · have hlt' : (m : Int) < (src.size : Int) := by omega
    cases hdg : digitB src[m]
    · by_cases hq : src[m].toNat = 34
      · have HDG := hid hdg
        have c34 : (src[m].toNat : Int) = 34 := by omega
        have hd34 : ∀ w : World, Calls Try.prog 29 #[.int .u8 34] w fun e w' => e = .returned (.bool false) ∧ w = w' := fun w => by have := digit_hit (w := w) src[m] hdg; rwa [c34] at this
        have HD34 := hid hd34
        have HC := hid (quoted_c (w := ((w.alloc (.cells #[.int .i64 0, .string ⟨#[]⟩, .int .i64 0, .int .i64 0, .bool false, .int .i64 0] 57)).alloc (.cells #[.int .i64 0, .string ⟨#[]⟩, .int .i64 0, .int .i64 (m : Nat), .bool ln] 55))) (ln := ln) hs hlt hq)
        clear hdg hq hd34
        generalize htk : tokL (dropB src m) ln m = tk at HC HT
        rcases tk with ⟨⟨K, X, U, A, L⟩, E⟩
        clear htk
        go_wp2_with (first | (go_at_call 28; refine HBL.out.mono ?_; rintro e w1 ⟨rfl, rfl⟩) | (go_at_call 29; refine (HD34.out _).mono ?_; rintro e w1 ⟨rfl, rfl⟩))
        refine HC.out.mono ?_
        rintro e w1 ⟨rfl, hb1⟩
        have rr := (hb1.block w.heap.size (by simp; omega)).trans RR.out
        have hbw := HB0.out.trans (hb1.mono HB0.out.size)
        have HBW := hid hbw
        have hlw : w.heap.size + 2 ≤ w1.heap.size := by have := hb1.size; simpa using this
        have r0 := (cell_of_row _ _ 0 _ _ _ rr).trans (b := some (Value.int .i64 0)) rfl
        have fr0 : w1.frozen? ⟨w.heap.size, 0, none⟩ = false := by simp [World.frozen?, rr]
        have r1 := (cell_of_row _ _ 1 _ _ _ rr).trans (b := some (Value.string ⟨#[]⟩)) rfl
        have fr1 : w1.frozen? ⟨w.heap.size, 1, none⟩ = false := by simp [World.frozen?, rr]
        have r2 := (cell_of_row _ _ 2 _ _ _ rr).trans (b := some (Value.int .i64 0)) rfl
        have fr2 : w1.frozen? ⟨w.heap.size, 2, none⟩ = false := by simp [World.frozen?, rr]
        have r3 := (cell_of_row _ _ 3 _ _ _ rr).trans (b := some (Value.int .i64 0)) rfl
        have fr3 : w1.frozen? ⟨w.heap.size, 3, none⟩ = false := by simp [World.frozen?, rr]
        have r4 := (cell_of_row _ _ 4 _ _ _ rr).trans (b := some (Value.bool false)) rfl
        have fr4 : w1.frozen? ⟨w.heap.size, 4, none⟩ = false := by simp [World.frozen?, rr]
        have r5 := (cell_of_row _ _ 5 _ _ _ rr).trans (b := some (Value.int .i64 0)) rfl
        have fr5 : w1.frozen? ⟨w.heap.size, 5, none⟩ = false := by simp [World.frozen?, rr]
        clear rr hb1 hbw
        unfold tkV
        go_wp2_with fail
        exact bodyPost_ret (v := .agg #[.int .i64 K, .string X, .int .i64 U, .int .i64 A, .bool L, .int .i64 E]) (by simp [results, Try.results14, go_sem, r0, r1, r2, r3, r4, r5]) rfl ⟨by rw [HT.out]; rfl, ((((((HBW.out.setCell (by simp) _).setCell (by simp) _).setCell (by simp) _).setCell (by simp) _).setCell (by simp) _).setCell (by simp) _)⟩
      · have HDG := hid hdg
        have c34 : ((src[m].toNat : Int) == 34) = false := by simp; omega
        cases hlt2 : letterB src[m]
      
        · have HLT := hid hlt2
          obtain ⟨R, hR⟩ : ∃ R, signL signsL (dropB src m) = R := ⟨_, rfl⟩
          have HTK := hid (HT.out.trans (tok_sign ln hlt hdg hq hlt2 hR))
          have HR := hid hR
          clear hR hdg hq hlt2 HT
          go_wp2_with (first | (go_at_call 28; refine HBL.out.mono ?_; rintro e w1 ⟨rfl, rfl⟩) | (go_at_call 29; refine (digit_hit _ HDG.out).mono ?_; rintro e w1 ⟨rfl, rfl⟩) | (go_at_call 32; refine (letter_hit _ HLT.out).mono ?_; rintro e w1 ⟨rfl, rfl⟩))
          refine (signs_c).mono ?_
          rintro e w1 ⟨b, rfl, hT1, hb1, hbl⟩
          have hb2 : ¬ b = w.heap.size := by have : w.heap.size + 2 ≤ b := by simpa using hbl
                                             omega
          have hb3 : ¬ b = w.heap.size + 1 := by have : w.heap.size + 2 ≤ b := by simpa using hbl
                                                 omega
          clear hbl
          have rr := (hb1.block w.heap.size (by simp; omega)).trans RR.out
          have rt := (hb1.block (w.heap.size + 1) (by simp)).trans RT.out
          have hbw := HB0.out.trans (hb1.mono HB0.out.size)
          have HBW := hid hbw
          have HT1 := hid hT1
          have RR1 := hid rr
          have RT1 := hid rt
          clear rr rt hb1 hbw hT1
          go_wp2_with fail
          go_loopw [10] (fun x wx => ∃ j : Nat, j ≤ 26 ∧ x = .int .i64 (j : Nat) ∧ Box (signL (signsL.drop j) (dropB src m) = R) ∧ Box (TextsAt wx b signsT) ∧ Box (wx.heap[w.heap.size + 1]? = some (.cells #[.int .i64 0, .string ⟨#[]⟩, .int .i64 0, .int .i64 (m : Nat), .bool ln] 55 (0, 0))) ∧ Box (wx.heap[w.heap.size]? = some (.cells #[.int .i64 0, .string ⟨#[]⟩, .int .i64 0, .int .i64 0, .bool false, .int .i64 0] 57 (0, 0))) ∧ Box (Below w.heap.size w wx)) (fun x _ => 26 - (RowKit.intOf x).toNat)
          case atStart => exact ⟨0, by omega, rfl, HR, HT1, RT1, RR1, HBW⟩
          case round =>
            clear HR HT1 RT1 RR1 HBW
            obtain ⟨j, hj26, rfl, HR, HT1, RT1, RR1, HBW⟩ := hrel
            have rt := RT1.out
            have rr := RR1.out
            have hlw : w.heap.size + 2 ≤ wr.heap.size := by have := (Array.getElem?_eq_some_iff.1 rt).1; omega
            have t0 := (cell_of_row _ _ 0 _ _ _ rt).trans (b := some (Value.int .i64 0)) rfl
            have t1 := (cell_of_row _ _ 1 _ _ _ rt).trans (b := some (Value.string ⟨#[]⟩)) rfl
            have t2 := (cell_of_row _ _ 2 _ _ _ rt).trans (b := some (Value.int .i64 0)) rfl
            have t3 := (cell_of_row _ _ 3 _ _ _ rt).trans (b := some (Value.int .i64 (m : Nat))) rfl
            have t4 := (cell_of_row _ _ 4 _ _ _ rt).trans (b := some (Value.bool ln)) rfl
            have ft0 : wr.frozen? ⟨w.heap.size + 1, 0, none⟩ = false := by simp [World.frozen?, rt]
            have ft1 : wr.frozen? ⟨w.heap.size + 1, 1, none⟩ = false := by simp [World.frozen?, rt]
            have r0 := (cell_of_row _ _ 0 _ _ _ rr).trans (b := some (Value.int .i64 0)) rfl
            have fr0 : wr.frozen? ⟨w.heap.size, 0, none⟩ = false := by simp [World.frozen?, rr]
            have r1 := (cell_of_row _ _ 1 _ _ _ rr).trans (b := some (Value.string ⟨#[]⟩)) rfl
            have fr1 : wr.frozen? ⟨w.heap.size, 1, none⟩ = false := by simp [World.frozen?, rr]
            have r2 := (cell_of_row _ _ 2 _ _ _ rr).trans (b := some (Value.int .i64 0)) rfl
            have fr2 : wr.frozen? ⟨w.heap.size, 2, none⟩ = false := by simp [World.frozen?, rr]
            have r3 := (cell_of_row _ _ 3 _ _ _ rr).trans (b := some (Value.int .i64 0)) rfl
            have fr3 : wr.frozen? ⟨w.heap.size, 3, none⟩ = false := by simp [World.frozen?, rr]
            have r4 := (cell_of_row _ _ 4 _ _ _ rr).trans (b := some (Value.bool false)) rfl
            have fr4 : wr.frozen? ⟨w.heap.size, 4, none⟩ = false := by simp [World.frozen?, rr]
            have r5 := (cell_of_row _ _ 5 _ _ _ rr).trans (b := some (Value.int .i64 0)) rfl
            have fr5 : wr.frozen? ⟨w.heap.size, 5, none⟩ = false := by simp [World.frozen?, rr]
            clear rt rr
            rcases Nat.lt_or_ge j 26 with hj | hj
            · have hj' : (j : Int) < 26 := by omega
              obtain ⟨y, hy⟩ : ∃ y, signsL[j]? = some y := ⟨_, List.getElem?_eq_getElem hj⟩
              have hx : signsT[j]? = some (bytesOf y) := by unfold signsT; rw [List.getElem?_map, hy]; rfl
              have hdr : signsL.drop j = y :: signsL.drop (j + 1) := by
                obtain ⟨h1, h2⟩ := List.getElem?_eq_some_iff.1 hy
                rw [← h2]; exact List.drop_eq_getElem_cons h1
              have hyl : (bytesOf y).size = y.length := by unfold bytesOf; exact List.size_toArray
              have hy3 : y.length ≤ 3 := by
                have : ∀ x ∈ signsL, x.length ≤ 3 := by decide
                exact this y (List.mem_of_getElem? hy)
              have hcx := HT1.out j _ hx
              have hr := HR.out
              rw [hdr] at hr
              have hh := head_iff (src := src) (m := m) y
              rw [← hyl] at hh hy3
              have hyb : signT m ln (some y) = (⟨5, bytesOf y, 0, m, ln⟩, m + (bytesOf y).size) := by unfold signT; rw [hyl]
              generalize bytesOf y = x at hx hcx hh hy3 hyb
              have HYB := hid hyb
              have hjl : (j : Int) < ((signsT.length : Nat) : Int) := by have : signsT.length = 26 := rfl; omega
              have hm0 : (m : Int) ≤ (m : Int) + (x.size : Int) := by omega
              clear hx hdr hyl hyb hy
              cases hq : headL y (dropB src m)
              · have HR2 : Box (signL (signsL.drop (j + 1)) (dropB src m) = R) := hid (by rw [signL, hq] at hr; exact hr)
                rcases Nat.lt_or_ge src.size (m + x.size) with hgt | hle
                · have hgt' : ¬ (m : Int) + (x.size : Int) ≤ (src.size : Int) := by omega
                  have hgn : ¬ m + x.size ≤ src.size := by omega
                  have hd1 : decide ((m : Int) + (x.size : Int) ≤ (src.size : Int)) = false := decide_eq_false hgt'
                  have hd2 : decide (m + x.size ≤ src.size) = false := decide_eq_false hgn
                  clear hh hr hq HR
                  go_wp2_with fail
                  go_quiet (fail)
                  go_wp2_with fail
                  go_roundw
                  case rel => exact ⟨j + 1, by omega, by go_num, HR2, hid (HT1.out.drewN _), RT1, RR1, hid (pw_below_drewN HBW.out _)⟩
                  case measure => simp [RowKit.intOf]; omega
                · have hle' : (m : Int) + (x.size : Int) ≤ (src.size : Int) := by omega
                  have hne : ((src.extract m (m + x.size)).toList == x.toList) = false := by
                    rw [toList_beq]
                    cases hb : beqB (src.extract m (m + x.size)) x
                    · rfl
                    · have := hh.2 ⟨by omega, (beqB_iff _ _).1 hb⟩
                      rw [hq] at this; cases this
                  clear hh hr hq HR
                  go_wp2_with fail
                  go_quiet (fail)
                  go_wp2_with fail
                  go_roundw
                  case rel => exact ⟨j + 1, by omega, by go_num, HR2, hid (HT1.out.drewN _), RT1, RR1, hid (pw_below_drewN HBW.out _)⟩
                  case measure => simp [RowKit.intOf]; omega
              · have hR : R = some y := by rw [signL, hq] at hr; exact hr.symm
                obtain ⟨hle0, hex⟩ := hh.1 hq
                have hle' : (m : Int) + (x.size : Int) ≤ (src.size : Int) := by omega
                have hne : ((src.extract m (m + x.size)).toList == x.toList) = true := by
                  rw [toList_beq, hex]; exact (beqB_iff _ _).2 rfl
                have HE := hid (show T = (⟨5, x, 0, m, ln⟩, m + x.size) by rw [HTK.out, hR]; exact HYB.out)
                have HRET := hid (show Ending.returned (Value.agg #[.int .i64 5, .string x, .int .i64 0, .int .i64 (m : Nat), .bool ln, .int .i64 ((m : Int) + (x.size : Int))]) = .returned (tkV T) by rw [HE.out]; unfold tkV; rw [Int.natCast_add])
                clear hh hr hq HR hR hex hle0
                go_wp2_with fail
                go_quiet (fail)
                go_wp2_with fail
                have rt2 := blk_put (blk_put (show (wr.drewN nq).heap[w.heap.size + 1]? = some (.cells #[.int .i64 0, .string ⟨#[]⟩, .int .i64 0, .int .i64 (m : Nat), .bool ln] 55 (0, 0)) from RT1.out) 0 (.int .i64 5) (cs' := #[.int .i64 5, .string ⟨#[]⟩, .int .i64 0, .int .i64 (m : Nat), .bool ln]) rfl) 1 (.string x) (cs' := #[.int .i64 5, .string x, .int .i64 0, .int .i64 (m : Nat), .bool ln]) rfl
                have keep : ∀ k, k ≠ w.heap.size + 1 → (((wr.drewN nq).setCell ⟨w.heap.size + 1, 0, none⟩ (.int .i64 5)).setCell ⟨w.heap.size + 1, 1, none⟩ (.string x)).heap[k]? = wr.heap[k]? := fun k hk => (Below.heap_setCell _ ⟨w.heap.size + 1, 1, none⟩ (.string x) k hk).trans (Below.heap_setCell (wr.drewN nq) ⟨w.heap.size + 1, 0, none⟩ (.int .i64 5) k hk)
                have rr := (keep w.heap.size (by omega)).trans RR1.out
                have yb : (((wr.drewN nq).setCell ⟨w.heap.size + 1, 0, none⟩ (.int .i64 5)).setCell ⟨w.heap.size + 1, 1, none⟩ (.string x)).cell? ⟨b, j, none⟩ = some (.string x) := by
                  simpa [World.cell?, keep b hb3] using hcx
                have hb4 := ((pw_below_drewN HBW.out nq).setCell (p := ⟨w.heap.size + 1, 0, none⟩) (by simp) (.int .i64 5)).setCell (p := ⟨w.heap.size + 1, 1, none⟩) (by simp) (.string x)
                have HB4 := hid hb4
                have hxm : (m : Int) + (x.size : Int) ≤ 4096 := by omega
                have HWR := hid (wrapx m x.size hxm)
                clear hb4 keep t0 t1 t2 t3 t4 ft0 ft1 r0 r1 r2 r3 r4 r5 fr0 fr1 fr2 fr3 fr4 fr5 hcx
                generalize (((wr.drewN nq).setCell ⟨w.heap.size + 1, 0, none⟩ (.int .i64 5)).setCell ⟨w.heap.size + 1, 1, none⟩ (.string x)) = W2 at rt2 rr yb HB4 ⊢
                have y0 := (cell_of_row _ _ 0 _ _ _ rt2).trans (b := some (Value.int .i64 5)) rfl
                have y1 := (cell_of_row _ _ 1 _ _ _ rt2).trans (b := some (Value.string x)) rfl
                have y2 := (cell_of_row _ _ 2 _ _ _ rt2).trans (b := some (Value.int .i64 0)) rfl
                have y3 := (cell_of_row _ _ 3 _ _ _ rt2).trans (b := some (Value.int .i64 (m : Nat))) rfl
                have y4 := (cell_of_row _ _ 4 _ _ _ rt2).trans (b := some (Value.bool ln)) rfl
                have r0 := (cell_of_row _ _ 0 _ _ _ rr).trans (b := some (Value.int .i64 0)) rfl
                have fr0 : W2.frozen? ⟨w.heap.size, 0, none⟩ = false := by simp [World.frozen?, rr]
                have r1 := (cell_of_row _ _ 1 _ _ _ rr).trans (b := some (Value.string ⟨#[]⟩)) rfl
                have fr1 : W2.frozen? ⟨w.heap.size, 1, none⟩ = false := by simp [World.frozen?, rr]
                have r2 := (cell_of_row _ _ 2 _ _ _ rr).trans (b := some (Value.int .i64 0)) rfl
                have fr2 : W2.frozen? ⟨w.heap.size, 2, none⟩ = false := by simp [World.frozen?, rr]
                have r3 := (cell_of_row _ _ 3 _ _ _ rr).trans (b := some (Value.int .i64 0)) rfl
                have fr3 : W2.frozen? ⟨w.heap.size, 3, none⟩ = false := by simp [World.frozen?, rr]
                have r4 := (cell_of_row _ _ 4 _ _ _ rr).trans (b := some (Value.bool false)) rfl
                have fr4 : W2.frozen? ⟨w.heap.size, 4, none⟩ = false := by simp [World.frozen?, rr]
                have r5 := (cell_of_row _ _ 5 _ _ _ rr).trans (b := some (Value.int .i64 0)) rfl
                have fr5 : W2.frozen? ⟨w.heap.size, 5, none⟩ = false := by simp [World.frozen?, rr]
                clear rt2 rr
                refine wp_region_until [9] (S := (fun w' => w'.cell? ⟨w.heap.size + 1, 0, none⟩ = some (.int .i64 5) ∧ w'.cell? ⟨w.heap.size + 1, 1, none⟩ = some (.string x) ∧ w'.cell? ⟨w.heap.size + 1, 2, none⟩ = some (.int .i64 0) ∧ w'.cell? ⟨w.heap.size + 1, 3, none⟩ = some (.int .i64 (m : Nat)) ∧ w'.cell? ⟨w.heap.size + 1, 4, none⟩ = some (.bool ln) ∧ w'.cell? ⟨b, j, none⟩ = some (.string x))) (by kernel_rfl) ?_ ?_
                · go_keep
                intro hS
                refine wpAnyU_take (i := 0) (v := (.agg #[.int .i64 5, .string x, .int .i64 0, .int .i64 (m : Nat), .bool ln])) rfl (by kernel_rfl) (fun _ _ _ h => h) (leads_of [[9]] (by kernel_rfl)) (by kernel_rfl) (by kernel_rfl) (by kernel_rfl) (Or.inl ⟨by rfl, ?_⟩) hS ?_
                · intro w' hS'
                  obtain ⟨s0, s1, s2, s3, s4, s5⟩ := hS'
                  go_simp
                change wpAnyU _ _ _ _ _ _ _ _ (Act.put _ (some 125) _) _
                simp only [Act.put, List.setIfInBounds_toArray, List.set_cons_succ, List.set_cons_zero]
                refine wpAnyU_take (i := 1) (v := (.int .i64 (m : Nat))) rfl (by kernel_rfl) (fun _ _ _ h => h) (leads_of [[9]] (by kernel_rfl)) (by kernel_rfl) (by kernel_rfl) (by kernel_rfl) (Or.inl ⟨by rfl, ?_⟩) hS ?_
                · intro w' hS'
                  obtain ⟨s0, s1, s2, s3, s4, s5⟩ := hS'
                  go_simp
                change wpAnyU _ _ _ _ _ _ _ _ (Act.put _ (some 126) _) _
                simp only [Act.put, List.setIfInBounds_toArray, List.set_cons_succ, List.set_cons_zero]
                refine wpAnyU_take (i := 2) (v := (.slice (some ⟨b, 0, none⟩) signsT.length signsT.length)) rfl (by kernel_rfl) (fun _ _ _ h => h) (leads_of [[9]] (by kernel_rfl)) (by kernel_rfl) (by kernel_rfl) (by kernel_rfl) (Or.inl ⟨by rfl, ?_⟩) hS ?_
                · intro w' hS'
                  obtain ⟨s0, s1, s2, s3, s4, s5⟩ := hS'
                  go_simp
                change wpAnyU _ _ _ _ _ _ _ _ (Act.put _ (some 127) _) _
                simp only [Act.put, List.setIfInBounds_toArray, List.set_cons_succ, List.set_cons_zero]
                refine wpAnyU_take (i := 3) (v := (.int .i64 (j : Nat))) rfl (by kernel_rfl) (fun _ _ _ h => h) (leads_of [[9]] (by kernel_rfl)) (by kernel_rfl) (by kernel_rfl) (by kernel_rfl) (Or.inl ⟨by rfl, ?_⟩) hS ?_
                · intro w' hS'
                  obtain ⟨s0, s1, s2, s3, s4, s5⟩ := hS'
                  go_simp
                change wpAnyU _ _ _ _ _ _ _ _ (Act.put _ (some 128) _) _
                simp only [Act.put, List.setIfInBounds_toArray, List.set_cons_succ, List.set_cons_zero]
                refine wpAnyU_take (i := 4) (v := (.pointer (some ⟨b, j, none⟩))) rfl (by kernel_rfl) (fun _ _ _ h => h) (leads_of [[9]] (by kernel_rfl)) (by kernel_rfl) (by kernel_rfl) (by kernel_rfl) (Or.inl ⟨by rfl, ?_⟩) hS ?_
                · intro w' hS'
                  obtain ⟨s0, s1, s2, s3, s4, s5⟩ := hS'
                  go_simp
                change wpAnyU _ _ _ _ _ _ _ _ (Act.put _ (some 129) _) _
                simp only [Act.put, List.setIfInBounds_toArray, List.set_cons_succ, List.set_cons_zero]
                refine wpAnyU_take (i := 5) (v := (.string x)) rfl (by kernel_rfl) (fun _ _ _ h => h) (leads_of [[9]] (by kernel_rfl)) (by kernel_rfl) (by kernel_rfl) (by kernel_rfl) (Or.inl ⟨by rfl, ?_⟩) hS ?_
                · intro w' hS'
                  obtain ⟨s0, s1, s2, s3, s4, s5⟩ := hS'
                  go_simp
                change wpAnyU _ _ _ _ _ _ _ _ (Act.put _ (some 130) _) _
                simp only [Act.put, List.setIfInBounds_toArray, List.set_cons_succ, List.set_cons_zero]
                refine wpAnyU_take (i := 6) (v := (.int .i64 (x.size : Nat))) rfl (by kernel_rfl) (fun _ _ _ h => h) (leads_of [[9]] (by kernel_rfl)) (by kernel_rfl) (by kernel_rfl) (by kernel_rfl) (Or.inl ⟨by rfl, ?_⟩) hS ?_
                · intro w' hS'
                  obtain ⟨s0, s1, s2, s3, s4, s5⟩ := hS'
                  go_simp
                change wpAnyU _ _ _ _ _ _ _ _ (Act.put _ (some 131) _) _
                simp only [Act.put, List.setIfInBounds_toArray, List.set_cons_succ, List.set_cons_zero]
                refine wpAnyU_all (rs := [7]) (by kernel_rfl) (by simp) ?_
                intro j hj
                obtain rfl := List.mem_singleton.1 hj
                clear hj
                refine wpOp_shut rfl (fun K' HK => ?_)
                go_simp
                rw [HWR.out]
                refine HK.out _ _ ⟨.inr hS, ?_⟩
                clear HK K'
                try simp only [Act.put, List.setIfInBounds_toArray, List.set_cons_succ, List.set_cons_zero]
                refine wpAnyU_take (i := 8) (v := (.agg #[.int .i64 5, .string x, .int .i64 0, .int .i64 (m : Nat), .bool ln, .int .i64 ((m : Int) + (x.size : Int))])) rfl (by kernel_rfl) (fun _ _ _ h => h) (leads_of [[9]] (by kernel_rfl)) (by kernel_rfl) (by kernel_rfl) (by kernel_rfl) (Or.inl ⟨by rfl, ?_⟩) hS ?_
                · intro w' hS'
                  obtain ⟨s0, s1, s2, s3, s4, s5⟩ := hS'
                  go_simp
                change wpAnyU _ _ _ _ _ _ _ _ (Act.put _ (some 133) _) _
                simp only [Act.put, List.setIfInBounds_toArray, List.set_cons_succ, List.set_cons_zero]
                refine wpAnyU_all (rs := [9]) (by kernel_rfl) (by simp) ?_
                intro j hj
                obtain rfl := List.mem_singleton.1 hj
                clear hj
                refine wpOp_shut rfl (fun K' HK => ?_)
                go_simp
                refine HK.out _ _ ⟨.inl (by decide), ?_⟩
                clear HK K'
                refine wpAnyU_done (by kernel_rfl) ?_ _
                go_wp2_with fail
                refine bodyPost_ret (v := .agg #[.int .i64 5, .string x, .int .i64 0, .int .i64 (m : Nat), .bool ln, .int .i64 ((m : Int) + (x.size : Int))]) ?_ ?_ ⟨HRET.out, ?_⟩
                · simp [results, Try.results14, go_sem, r0, r1, r2, r3, r4, r5]
                · exact rfl
                · exact ((((((HB4.out.setCell (by simp) _).setCell (by simp) _).setCell (by simp) _).setCell (by simp) _).setCell (by simp) _).setCell (by simp) _).drew
            · obtain rfl : j = 26 := by omega
              have HE := hid (show T = (⟨6, ⟨#[]⟩, 0, m, ln⟩, m) by rw [HTK.out, ← HR.out]; rfl)
              go_wp2_with fail
              exact bodyPost_ret (v := .agg #[.int .i64 6, .string ⟨#[]⟩, .int .i64 0, .int .i64 (m : Nat), .bool ln, .int .i64 (m : Nat)]) (by simp [results, Try.results14, go_sem, r0, r1, r2, r3, r4, r5]) rfl ⟨by rw [HE.out]; rfl, (((((((HBW.out.setCell (by simp) _).setCell (by simp) _).setCell (by simp) _).setCell (by simp) _).setCell (by simp) _).setCell (by simp) _).setCell (by simp) _)⟩
        · have HDL := hid hlt2
          have HDQ := hid hq
          obtain ⟨K, hK⟩ : ∃ K, wordL (dropB src m) 0 = K := ⟨_, rfl⟩
          have htk := tok_let ln hlt hdg hq hlt2 hK
          have hKs : m + K ≤ src.size := by
            have := (word_le (dropB src m) 0).2
            have hl : (dropB src m).length = src.size - m := by unfold dropB; rw [List.length_drop]; rfl
            omega
          have HLT := HDL
          have HTK := hid (HT.out.trans htk)
          have HK := hid hK
          clear htk hK hdg hq hlt2
          go_wp2_with (first | (go_at_call 28; refine HBL.out.mono ?_; rintro e w1 ⟨rfl, rfl⟩) | (go_at_call 29; refine (digit_hit _ HDG.out).mono ?_; rintro e w1 ⟨rfl, rfl⟩) | (go_at_call 32; refine (letter_hit _ HLT.out).mono ?_; rintro e w1 ⟨rfl, rfl⟩))
          go_loop [8] (fun x => ∃ j : Nat, m ≤ j ∧ j ≤ m + K ∧ x = .int .i64 (j : Nat) ∧ Box (wordL (dropB src j) (j - m) = K)) (fun x => src.size - (RowKit.intOf x).toNat)
          case atStart => exact ⟨m, Nat.le_refl _, by omega, rfl, by rw [Nat.sub_self]; exact HK⟩
          case round =>
            clear HK
            obtain ⟨j, hmj, hjK, rfl, HJ⟩ := hrel
            have hj := HJ.out
            rcases Nat.lt_or_ge j src.size with hlj | hgj
            · have hlj' : (j : Int) < (src.size : Int) := by omega
              rw [drop_lt hlj] at hj
              cases hl : letterB src[j]
              · cases hd : digitB src[j]
                · have hjk : m + K = j := by
                    rw [wordL, hl, hd] at hj
                    have : j - m = K := hj
                    omega
                  have HDJ := hid hd
                  have HLJ := hid hl
                  clear hj HJ hl hd
                  have hmj' : (m : Int) ≤ (j : Int) := by omega
                  have hjs : (j : Int) ≤ (src.size : Int) := by omega
                  obtain ⟨hb2, rt2, rr2⟩ := tokStart w #[.int .i64 3, .string (src.extract m j), .int .i64 0, .int .i64 (m : Nat), .bool ln]
                  have RT2 := hid rt2
                  have RR2 := hid rr2
                  have HB2 := hid hb2
                  clear rt2 rr2 hb2
                  obtain ⟨q, hin⟩ : ∃ q, inL wordsL (src.extract m j).data.toList = q := ⟨_, rfl⟩
                  have HTJ := hid (show T = (⟨if q then 4 else 3, src.extract m j, 0, m, ln⟩, j) by rw [HTK.out, hjk, hin])
                  have HIN := hid hin
                  clear hin hjk HTK
                  go_wp2_with (first | (go_at_call 29; refine (digit_hit _ HDJ.out).mono ?_; rintro e w1 ⟨rfl, rfl⟩) | (go_at_call 32; refine (letter_hit _ HLJ.out).mono ?_; rintro e w1 ⟨rfl, rfl⟩))
                  refine (isWord_hit _ HIN.out).mono ?_
                  rintro e w1 ⟨rfl, hb1⟩
                  have rr := (hb1.block w.heap.size (by simp; omega)).trans RR2.out
                  have rt := (hb1.block (w.heap.size + 1) (by simp)).trans RT2.out
                  have hbw := HB2.out.trans (hb1.mono HB2.out.size)
                  have HBW := hid hbw
                  have hlw : w.heap.size + 2 ≤ w1.heap.size := by have := hb1.size; simpa using this
                  have t0 := (cell_of_row _ _ 0 _ _ _ rt).trans (b := some (Value.int .i64 3)) rfl
                  have t1 := (cell_of_row _ _ 1 _ _ _ rt).trans (b := some (Value.string (src.extract m j))) rfl
                  have t2 := (cell_of_row _ _ 2 _ _ _ rt).trans (b := some (Value.int .i64 0)) rfl
                  have t3 := (cell_of_row _ _ 3 _ _ _ rt).trans (b := some (Value.int .i64 (m : Nat))) rfl
                  have t4 := (cell_of_row _ _ 4 _ _ _ rt).trans (b := some (Value.bool ln)) rfl
                  have ft0 : w1.frozen? ⟨w.heap.size + 1, 0, none⟩ = false := by simp [World.frozen?, rt]
                  have ft1 : w1.frozen? ⟨w.heap.size + 1, 1, none⟩ = false := by simp [World.frozen?, rt]
                  have r0 := (cell_of_row _ _ 0 _ _ _ rr).trans (b := some (Value.int .i64 0)) rfl
                  have fr0 : w1.frozen? ⟨w.heap.size, 0, none⟩ = false := by simp [World.frozen?, rr]
                  have r1 := (cell_of_row _ _ 1 _ _ _ rr).trans (b := some (Value.string ⟨#[]⟩)) rfl
                  have fr1 : w1.frozen? ⟨w.heap.size, 1, none⟩ = false := by simp [World.frozen?, rr]
                  have r2 := (cell_of_row _ _ 2 _ _ _ rr).trans (b := some (Value.int .i64 0)) rfl
                  have fr2 : w1.frozen? ⟨w.heap.size, 2, none⟩ = false := by simp [World.frozen?, rr]
                  have r3 := (cell_of_row _ _ 3 _ _ _ rr).trans (b := some (Value.int .i64 0)) rfl
                  have fr3 : w1.frozen? ⟨w.heap.size, 3, none⟩ = false := by simp [World.frozen?, rr]
                  have r4 := (cell_of_row _ _ 4 _ _ _ rr).trans (b := some (Value.bool false)) rfl
                  have fr4 : w1.frozen? ⟨w.heap.size, 4, none⟩ = false := by simp [World.frozen?, rr]
                  have r5 := (cell_of_row _ _ 5 _ _ _ rr).trans (b := some (Value.int .i64 0)) rfl
                  have fr5 : w1.frozen? ⟨w.heap.size, 5, none⟩ = false := by simp [World.frozen?, rr]
                  clear rr rt hb1 hbw RT2 RR2 HB2
                  cases q
                  · go_wp2_with fail
                    exact bodyPost_ret (v := .agg #[.int .i64 3, .string (src.extract m j), .int .i64 0, .int .i64 (m : Nat), .bool ln, .int .i64 (j : Nat)]) (by simp [results, Try.results14, go_sem, r0, r1, r2, r3, r4, r5]) rfl ⟨by rw [HTJ.out]; rfl, ((((((HBW.out.setCell (by simp) _).setCell (by simp) _).setCell (by simp) _).setCell (by simp) _).setCell (by simp) _).setCell (by simp) _)⟩
                  · go_wp2_with fail
                    exact bodyPost_ret (v := .agg #[.int .i64 4, .string (src.extract m j), .int .i64 0, .int .i64 (m : Nat), .bool ln, .int .i64 (j : Nat)]) (by simp [results, Try.results14, go_sem, r0, r1, r2, r3, r4, r5]) rfl ⟨by rw [HTJ.out]; rfl, (((((((HBW.out.setCell (by simp) _).setCell (by simp) _).setCell (by simp) _).setCell (by simp) _).setCell (by simp) _).setCell (by simp) _).setCell (by simp) _)⟩
                · have HJ2 : Box (wordL (dropB src (j + 1)) (j + 1 - m) = K) := hid (by
                    rw [wordL, hl, hd] at hj
                    rw [show j + 1 - m = j - m + 1 by omega]; exact hj)
                  have hjK2 : j + 1 ≤ m + K := by have := (word_le (dropB src (j + 1)) (j + 1 - m)).1; rw [HJ2.out] at this; omega
                  have HDJ := hid hd
                  have HLJ := hid hl
                  clear hj HJ hl hd
                  go_wp2_with (first | (go_at_call 29; refine (digit_hit _ HDJ.out).mono ?_; rintro e w1 ⟨rfl, rfl⟩) | (go_at_call 32; refine (letter_hit _ HLJ.out).mono ?_; rintro e w1 ⟨rfl, rfl⟩))
                  go_round
                  case rel => exact ⟨j + 1, by omega, hjK2, by go_num, HJ2⟩
                  case measure => simp [RowKit.intOf]; omega
              · have HJ2 : Box (wordL (dropB src (j + 1)) (j + 1 - m) = K) := hid (by
                  rw [wordL, hl] at hj
                  rw [show j + 1 - m = j - m + 1 by omega]; exact hj)
                have hjK2 : j + 1 ≤ m + K := by have := (word_le (dropB src (j + 1)) (j + 1 - m)).1; rw [HJ2.out] at this; omega
                have HLJ := hid hl
                clear hj HJ hl
                go_wp2_with (first | (go_at_call 32; refine (letter_hit _ HLJ.out).mono ?_; rintro e w1 ⟨rfl, rfl⟩))
                go_round
                case rel => exact ⟨j + 1, by omega, hjK2, by go_num, HJ2⟩
                case measure => simp [RowKit.intOf]; omega
            · have hlj' : ¬ (j : Int) < (src.size : Int) := by omega
              have hjk : m + K = j := by
                rw [drop_ge hgj] at hj
                have : j - m = K := hj
                omega
              clear hj HJ
              have hmj' : (m : Int) ≤ (j : Int) := by omega
              have hjs : (j : Int) ≤ (src.size : Int) := by omega
              obtain ⟨hb2, rt2, rr2⟩ := tokStart w #[.int .i64 3, .string (src.extract m j), .int .i64 0, .int .i64 (m : Nat), .bool ln]
              have RT2 := hid rt2
              have RR2 := hid rr2
              have HB2 := hid hb2
              clear rt2 rr2 hb2
              obtain ⟨q, hin⟩ : ∃ q, inL wordsL (src.extract m j).data.toList = q := ⟨_, rfl⟩
              have HTJ := hid (show T = (⟨if q then 4 else 3, src.extract m j, 0, m, ln⟩, j) by rw [HTK.out, hjk, hin])
              have HIN := hid hin
              clear hin hjk HTK
              go_wp2_with (first | (go_at_call 29; refine (digit_hit _ HDJ.out).mono ?_; rintro e w1 ⟨rfl, rfl⟩) | (go_at_call 32; refine (letter_hit _ HLJ.out).mono ?_; rintro e w1 ⟨rfl, rfl⟩))
              refine (isWord_hit _ HIN.out).mono ?_
              rintro e w1 ⟨rfl, hb1⟩
              have rr := (hb1.block w.heap.size (by simp; omega)).trans RR2.out
              have rt := (hb1.block (w.heap.size + 1) (by simp)).trans RT2.out
              have hbw := HB2.out.trans (hb1.mono HB2.out.size)
              have HBW := hid hbw
              have hlw : w.heap.size + 2 ≤ w1.heap.size := by have := hb1.size; simpa using this
              have t0 := (cell_of_row _ _ 0 _ _ _ rt).trans (b := some (Value.int .i64 3)) rfl
              have t1 := (cell_of_row _ _ 1 _ _ _ rt).trans (b := some (Value.string (src.extract m j))) rfl
              have t2 := (cell_of_row _ _ 2 _ _ _ rt).trans (b := some (Value.int .i64 0)) rfl
              have t3 := (cell_of_row _ _ 3 _ _ _ rt).trans (b := some (Value.int .i64 (m : Nat))) rfl
              have t4 := (cell_of_row _ _ 4 _ _ _ rt).trans (b := some (Value.bool ln)) rfl
              have ft0 : w1.frozen? ⟨w.heap.size + 1, 0, none⟩ = false := by simp [World.frozen?, rt]
              have ft1 : w1.frozen? ⟨w.heap.size + 1, 1, none⟩ = false := by simp [World.frozen?, rt]
              have r0 := (cell_of_row _ _ 0 _ _ _ rr).trans (b := some (Value.int .i64 0)) rfl
              have fr0 : w1.frozen? ⟨w.heap.size, 0, none⟩ = false := by simp [World.frozen?, rr]
              have r1 := (cell_of_row _ _ 1 _ _ _ rr).trans (b := some (Value.string ⟨#[]⟩)) rfl
              have fr1 : w1.frozen? ⟨w.heap.size, 1, none⟩ = false := by simp [World.frozen?, rr]
              have r2 := (cell_of_row _ _ 2 _ _ _ rr).trans (b := some (Value.int .i64 0)) rfl
              have fr2 : w1.frozen? ⟨w.heap.size, 2, none⟩ = false := by simp [World.frozen?, rr]
              have r3 := (cell_of_row _ _ 3 _ _ _ rr).trans (b := some (Value.int .i64 0)) rfl
              have fr3 : w1.frozen? ⟨w.heap.size, 3, none⟩ = false := by simp [World.frozen?, rr]
              have r4 := (cell_of_row _ _ 4 _ _ _ rr).trans (b := some (Value.bool false)) rfl
              have fr4 : w1.frozen? ⟨w.heap.size, 4, none⟩ = false := by simp [World.frozen?, rr]
              have r5 := (cell_of_row _ _ 5 _ _ _ rr).trans (b := some (Value.int .i64 0)) rfl
              have fr5 : w1.frozen? ⟨w.heap.size, 5, none⟩ = false := by simp [World.frozen?, rr]
              clear rr rt hb1 hbw RT2 RR2 HB2
              cases q
              · go_wp2_with fail
                exact bodyPost_ret (v := .agg #[.int .i64 3, .string (src.extract m j), .int .i64 0, .int .i64 (m : Nat), .bool ln, .int .i64 (j : Nat)]) (by simp [results, Try.results14, go_sem, r0, r1, r2, r3, r4, r5]) rfl ⟨by rw [HTJ.out]; rfl, ((((((HBW.out.setCell (by simp) _).setCell (by simp) _).setCell (by simp) _).setCell (by simp) _).setCell (by simp) _).setCell (by simp) _)⟩
              · go_wp2_with fail
                exact bodyPost_ret (v := .agg #[.int .i64 4, .string (src.extract m j), .int .i64 0, .int .i64 (m : Nat), .bool ln, .int .i64 (j : Nat)]) (by simp [results, Try.results14, go_sem, r0, r1, r2, r3, r4, r5]) rfl ⟨by rw [HTJ.out]; rfl, (((((((HBW.out.setCell (by simp) _).setCell (by simp) _).setCell (by simp) _).setCell (by simp) _).setCell (by simp) _).setCell (by simp) _).setCell (by simp) _)⟩
    · have HDG := hid hdg
      have HC := hid (number_c (w := ((w.alloc (.cells #[.int .i64 0, .string ⟨#[]⟩, .int .i64 0, .int .i64 0, .bool false, .int .i64 0] 57)).alloc (.cells #[.int .i64 0, .string ⟨#[]⟩, .int .i64 0, .int .i64 (m : Nat), .bool ln] 55))) (ln := ln) hs hlt hdg)
      clear hdg
      generalize htk : tokL (dropB src m) ln m = tk at HC HT
      rcases tk with ⟨⟨K, X, U, A, L⟩, E⟩
      clear htk
      go_wp2_with (first | (go_at_call 28; refine HBL.out.mono ?_; rintro e w1 ⟨rfl, rfl⟩) | (go_at_call 29; refine (digit_hit _ HDG.out).mono ?_; rintro e w1 ⟨rfl, rfl⟩))
      refine HC.out.mono ?_
      rintro e w1 ⟨rfl, hb1⟩
      have rr := (hb1.block w.heap.size (by simp; omega)).trans RR.out
      have hbw := HB0.out.trans (hb1.mono HB0.out.size)
      have HBW := hid hbw
      have hlw : w.heap.size + 2 ≤ w1.heap.size := by have := hb1.size; simpa using this
      have r0 := (cell_of_row _ _ 0 _ _ _ rr).trans (b := some (Value.int .i64 0)) rfl
      have fr0 : w1.frozen? ⟨w.heap.size, 0, none⟩ = false := by simp [World.frozen?, rr]
      have r1 := (cell_of_row _ _ 1 _ _ _ rr).trans (b := some (Value.string ⟨#[]⟩)) rfl
      have fr1 : w1.frozen? ⟨w.heap.size, 1, none⟩ = false := by simp [World.frozen?, rr]
      have r2 := (cell_of_row _ _ 2 _ _ _ rr).trans (b := some (Value.int .i64 0)) rfl
      have fr2 : w1.frozen? ⟨w.heap.size, 2, none⟩ = false := by simp [World.frozen?, rr]
      have r3 := (cell_of_row _ _ 3 _ _ _ rr).trans (b := some (Value.int .i64 0)) rfl
      have fr3 : w1.frozen? ⟨w.heap.size, 3, none⟩ = false := by simp [World.frozen?, rr]
      have r4 := (cell_of_row _ _ 4 _ _ _ rr).trans (b := some (Value.bool false)) rfl
      have fr4 : w1.frozen? ⟨w.heap.size, 4, none⟩ = false := by simp [World.frozen?, rr]
      have r5 := (cell_of_row _ _ 5 _ _ _ rr).trans (b := some (Value.int .i64 0)) rfl
      have fr5 : w1.frozen? ⟨w.heap.size, 5, none⟩ = false := by simp [World.frozen?, rr]
      clear rr hb1 hbw
      unfold tkV
      go_wp2_with fail
      exact bodyPost_ret (v := .agg #[.int .i64 K, .string X, .int .i64 U, .int .i64 A, .bool L, .int .i64 E]) (by simp [results, Try.results14, go_sem, r0, r1, r2, r3, r4, r5]) rfl ⟨by rw [HT.out]; rfl, ((((((HBW.out.setCell (by simp) _).setCell (by simp) _).setCell (by simp) _).setCell (by simp) _).setCell (by simp) _).setCell (by simp) _)⟩
  · obtain rfl : m = src.size := by omega
    have HE := hid (show T = (⟨0, ⟨#[]⟩, 0, src.size, ln⟩, src.size) by rw [HT.out, drop_ge (Nat.le_refl _), tok_end])
    clear HT
    go_wp2_with (first | (go_at_call 28; refine HBL.out.mono ?_; rintro e w1 ⟨rfl, rfl⟩))
    exact bodyPost_ret (v := .agg #[.int .i64 0, .string ⟨#[]⟩, .int .i64 0, .int .i64 (src.size : Nat), .bool ln, .int .i64 (src.size : Nat)]) (by simp [results, Try.results14, go_sem]) rfl ⟨by rw [HE.out]; rfl, ((Below.refl _ _).alloc (Nat.le_refl _) _).alloc (by simp) _⟩
theorem tok_c (src : ByteArray) (n : Nat) (hs : src.size ≤ 4096) (hn : n ≤ src.size) : Calls Try.prog 14 #[.string src, .int .i64 (n : Nat)] w fun e w' =>
    e = .returned (.agg #[.int .i64 (tok src n).1.kind, .string (tok src n).1.text, .int .i64 (tok src n).1.num, .int .i64 (tok src n).1.at_, .bool (tok src n).1.line, .int .i64 (tok src n).2]) ∧ Below w.heap.size w w' := by
  obtain ⟨r, ln, m, hR⟩ : ∃ r ln m, blanksL false (dropB src n) false n = (r, ln, m) := ⟨_, _, _, rfl⟩
  obtain ⟨hr, hnm, hm, hT⟩ := tok_eq hn hR
  rcases Nat.eq_zero_or_pos n with h0 | hpos
  · subst h0
    exact tok_z hs hm hT (fun w => blanks_c (w := w) hs hn hR)
  · exact tok_p hn hpos hs hm hT (fun w => blanks_c (w := w) hs hn hR)
end
end Go.Proofs.Ytibepkblgliooaa.Q
