/- The parser's small functions, walked. -/
import Derived.Test.YticbjhicjegfoaaQb
namespace Go.Proofs.Yticbjhicjegfoaa.Q
open Go.RowKit
open Go.Proofs.YticbjhicjegfoaaW.PrintWords

theorem ret_bool {a b : Bool} (h : a = b) : Ending.returned (.bool b) = Ending.returned (.bool a) := by rw [h]
theorem ret_str {a b : ByteArray} (h : a = b) : Ending.returned (.string b) = Ending.returned (.string a) := by rw [h]
theorem ret_nat {a b : Nat} (h : a = b) : Ending.returned (.int .i64 b) = Ending.returned (.int .i64 a) := by rw [h]
section
variable {w : World} {a : Nat} {ok : Nat → Prop} {v : Value} {S : Ps}
set_option maxHeartbeats 400000 in
set_option maxRecDepth 100000 in
theorem out_c (h : PI w a ok v S) : Calls Try.prog 63 #[ptr a] w fun e w' => e = .returned (.tuple #[]) ∧ Nx w a ok w' S.out := by
  have c8 := h.c8
  have f8 := h.f 8
  have H := hid h
  clear h
  unfold ptr
  go_enter Try.func63, Try.ntmps63
  go_wp2_with fail
  exact bodyPost_end (results_none rfl _ _ _) rfl ⟨rfl, (H.out.set 8 _ rfl rfl : PI _ a ok v S.out).nx (Kp.set _ (.inl rfl))⟩
set_option maxHeartbeats 400000 in
set_option maxRecDepth 100000 in
theorem in_c (h : PI w a ok v S) : Calls Try.prog 61 #[ptr a] w fun e w' => e = .returned (.bool (!S.inn.bad)) ∧ Nx w a ok w' S.inn := by
  have c8 := h.c8
  have f8 := h.f 8
  have c9 := h.c9
  have f9 := h.f 9
  have H := hid h
  clear h
  unfold ptr
  by_cases hd : wrap64 (S.deep + 1) > 40
  · have hb : S.inn.bad = true := by simp [Ps.inn, hd]
    have HB := hid hb
    clear hb
    go_enter Try.func61, Try.ntmps61
    go_wp2
    go_ret
    refine ⟨ret_bool (by rw [HB.out]; rfl), ?_⟩
    have h2 : PI (w.setCell ⟨a, 8, none⟩ (.int .i64 (wrap64 (S.deep + 1)))) a ok v { S with deep := wrap64 (S.deep + 1) } := H.out.set 8 _ rfl rfl
    have h3 := (h2.set 9 (.bool true) rfl rfl : PI _ a ok v { S with deep := wrap64 (S.deep + 1), bad := true })
    have e : S.inn = { S with deep := wrap64 (S.deep + 1), bad := true } := by simp [Ps.inn, hd]
    rw [e]
    exact h3.nx ((Kp.set _ (.inl rfl)).trans (Kp.set _ (.inl rfl)) (fun _ h => .inl h))
  · have hb : S.inn.bad = S.bad := by simp [Ps.inn, hd]
    have HB := hid hb
    clear hb
    go_enter Try.func61, Try.ntmps61
    go_wp2
    go_ret
    refine ⟨ret_bool (by rw [HB.out]), ?_⟩
    have h2 : PI (w.setCell ⟨a, 8, none⟩ (.int .i64 (wrap64 (S.deep + 1)))) a ok v { S with deep := wrap64 (S.deep + 1) } := H.out.set 8 _ rfl rfl
    have e : S.inn = { S with deep := wrap64 (S.deep + 1) } := by simp only [Ps.inn, decide_eq_false (Int.not_lt.2 hd), Bool.or_false]
    rw [e]
    exact h2.nx (Kp.set _ (.inl rfl))
theorem toList_beq (a b : ByteArray) : (a.toList == b.toList) = beqB a b := by
  have e : ∀ x : ByteArray, x.toList = x.data.toList := ByteArray.toList_eq
  rw [Bool.eq_iff_iff, beqB_iff, beq_iff_eq, e, e, Array.toList_inj]
  constructor
  · intro h; cases a; cases b; simpa using h
  · intro h; rw [h]
set_option maxHeartbeats 400000 in
set_option maxRecDepth 100000 in
theorem is_c (h : PI w a ok v S) (s : ByteArray) : Calls Try.prog 49 #[ptr a, .string s] w fun e w' => e = .returned (.bool (S.is s)) ∧ w' = w := by
  have c1 := h.c1
  have c2 := h.c2
  clear h
  unfold ptr
  by_cases h5 : S.t.kind = 5
  · have hb : S.is s = (S.t.text.toList == s.toList) := by simp [Ps.is, h5, toList_beq]
    have HB := hid hb
    clear hb
    go_enter Try.func49, Try.ntmps49
    go_wp2
    go_ret
    exact ⟨ret_bool HB.out, rfl⟩
  · by_cases h4 : S.t.kind = 4
    · have hb : S.is s = (S.t.text.toList == s.toList) := by simp [Ps.is, h4, toList_beq]
      have HB := hid hb
      clear hb
      go_enter Try.func49, Try.ntmps49
      go_wp2
      go_ret
      exact ⟨ret_bool HB.out, rfl⟩
    · have hb : S.is s = false := by simp [Ps.is, h4, h5]
      have HB := hid hb
      clear hb
      go_enter Try.func49, Try.ntmps49
      go_wp2
      go_ret
      exact ⟨ret_bool HB.out, rfl⟩
end
end Go.Proofs.Yticbjhicjegfoaa.Q
