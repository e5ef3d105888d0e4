/- Signs, words and names that are next; a statement's end. -/
import Derived.Test.YticbjhicjegfoaaQd
namespace Go.Proofs.Yticbjhicjegfoaa.Q
open Go.RowKit
open Go.Proofs.YticbjhicjegfoaaW.PrintWords

section
variable {w : World} {a : Nat} {ok : Nat → Prop} {v : Value} {S : Ps}
set_option maxHeartbeats 800000 in
set_option maxRecDepth 100000 in
theorem has_c (h : PI w a ok v S) (s : ByteArray) : Calls Try.prog 83 #[ptr a, .string s] w fun e w' => e = .returned (.bool (S.hasB s)) ∧ Nx w a ok w' (S.has s) := by
  have c9 := h.c9
  have H := hid h
  clear h
  unfold ptr
  cases hb : S.bad
  · rw [hb] at c9
    cases hi : S.is s
    · have hB : S.hasB s = false := by simp [Ps.hasB, hb, hi]
      have e1 := is_c H.out s
      rw [hi] at e1
      have HE1 := hid e1
      have HB := hid hB
      have HS := hid (show S.has s = S by simp [Ps.has, hB])
      clear hB hb hi e1
      go_enter Try.func83, Try.ntmps83
      go_wp2_with (go_at_call 49; refine HE1.out.mono ?_; rintro e w1 ⟨rfl, rfl⟩)
      go_ret
      exact ⟨ret_bool HB.out, by rw [HS.out]; exact H.out.same⟩
    · have hB : S.hasB s = true := by simp [Ps.hasB, hb, hi]
      have e1 := is_c H.out s
      rw [hi] at e1
      have HE1 := hid e1
      have HB := hid hB
      have HS := hid (show S.has s = S.move by simp [Ps.has, hB])
      clear hB hb hi e1
      go_enter Try.func83, Try.ntmps83
      go_wp2_with (first | (go_at_call 49; refine HE1.out.mono ?_; rintro e w1 ⟨rfl, rfl⟩) | (go_at_call 89; refine (move_c H.out).mono ?_; rintro e w2 ⟨rfl, hN⟩; have HN := hid hN; clear hN))
      go_ret
      exact ⟨ret_bool HB.out, by rw [HS.out]; exact HN.out⟩
  · rw [hb] at c9
    have hB : S.hasB s = false := by simp [Ps.hasB, hb]
    have HB := hid hB
    have HS := hid (show S.has s = S by simp [Ps.has, hB])
    clear hB hb
    go_enter Try.func83, Try.ntmps83
    go_wp2_with fail
    go_ret
    exact ⟨ret_bool HB.out, by rw [HS.out]; exact H.out.same⟩
theorem is_hit (h : PI w a ok v S) (s : ByteArray) {b : Bool} (hb : S.is s = b) : Calls Try.prog 49 #[ptr a, .string s] w fun e w' => e = .returned (.bool b) ∧ w = w' := by
  have := is_c h s
  rw [hb] at this
  exact this.mono fun _ _ ⟨h1, h2⟩ => ⟨h1, h2.symm⟩
theorem has_hit (h : PI w a ok v S) (s : ByteArray) (hb : S.hasB s = true) : Calls Try.prog 83 #[ptr a, .string s] w fun e w' => e = .returned (.bool true) ∧ Nx w a ok w' S.move := by
  have := has_c h s
  rwa [hb, show S.has s = S.move by simp [Ps.has, hb]] at this
set_option maxHeartbeats 800000 in
set_option maxRecDepth 100000 in
theorem has_miss (h : PI w a ok v S) (s : ByteArray) (hb : S.hasB s = false) : Calls Try.prog 83 #[ptr a, .string s] w fun e w' => e = .returned (.bool false) ∧ Nx w a ok w' S := by
  have := has_c h s
  rwa [hb, show S.has s = S by simp [Ps.has, hb]] at this
theorem PI.spoil (h : PI w a ok v S) : Nx w a ok (w.setCell ⟨a, 9, none⟩ (.bool true)) S.spoilt := (h.set 9 _ rfl rfl : PI _ a ok v S.spoilt).nx (Kp.set _ (.inl rfl))
set_option maxHeartbeats 800000 in
set_option maxRecDepth 100000 in
theorem must_c (h : PI w a ok v S) (s : ByteArray) : Calls Try.prog 84 #[ptr a, .string s] w fun e w' => e = .returned (.tuple #[]) ∧ Nx w a ok w' (S.must s) := by
  cases hb : S.hasB s
  · have e1 := has_c h s
    rw [hb, show S.has s = S by simp [Ps.has, hb]] at e1
    have HE1 := hid e1
    have HS := hid (show S.must s = S.spoilt by simp [Ps.must, hb])
    unfold ptr at HE1 ⊢
    clear hb e1 h
    go_enter Try.func84, Try.ntmps84
    go_wp2_with fail
    refine HE1.out.mono ?_
    rintro e w1 ⟨rfl, hN⟩
    obtain ⟨ok1, v1, h1, _, _⟩ := id hN
    have c9 := h1.c9
    have f9 := h1.f 9
    have HN := hid hN
    clear hN h1
    go_wp2_with fail
    exact bodyPost_end (results_none rfl _ _ _) rfl ⟨rfl, by rw [HS.out]; exact HN.out.trans (fun _ _ h => h.spoil)⟩
  · have e1 := has_hit h s hb
    have HE1 := hid e1
    have HS := hid (show S.must s = S.move by simp [Ps.must, hb])
    unfold ptr at HE1 ⊢
    clear hb e1 h
    go_enter Try.func84, Try.ntmps84
    go_wp2_with fail
    refine HE1.out.mono ?_
    rintro e w1 ⟨rfl, hN⟩
    have HN := hid hN
    clear hN
    go_wp2_with fail
    exact bodyPost_end (results_none rfl _ _ _) rfl ⟨rfl, by rw [HS.out]; exact HN.out⟩
set_option maxHeartbeats 800000 in
set_option maxRecDepth 100000 in
theorem name_c (h : PI w a ok v S) : Calls Try.prog 88 #[ptr a] w fun e w' => e = .returned (.string S.nameT) ∧ Nx w a ok w' S.name := by
  have c9 := h.c9
  have c1 := h.c1
  have c2 := h.c2
  have f9 := h.f 9
  have H := hid h
  clear h
  unfold ptr
  cases hb : S.bad
  · rw [hb] at c9
    by_cases hk : S.t.kind = 3
    · have hB : S.nameB = true := by simp [Ps.nameB, hb, hk]
      have HS := hid (show S.name = S.move by simp [Ps.name, hB])
      have HT := hid (show S.nameT = S.t.text by simp [Ps.nameT, hB])
      rw [hk] at c1
      clear hB hb hk
      go_enter Try.func88, Try.ntmps88
      go_wp2_with (go_at_call 89; refine (move_c H.out).mono ?_; rintro e w2 ⟨rfl, hN⟩; have HN := hid hN; clear hN)
      go_ret
      exact ⟨ret_str HT.out, by rw [HS.out]; exact HN.out⟩
    · have hB : S.nameB = false := by simp [Ps.nameB, hk]
      have HS := hid (show S.name = S.spoilt by simp [Ps.name, hB])
      have HT := hid (show S.nameT = ⟨#[]⟩ by simp [Ps.nameT, hB])
      clear hB hb
      go_enter Try.func88, Try.ntmps88
      go_wp2_with fail
      go_ret
      exact ⟨ret_str HT.out, by rw [HS.out]; exact H.out.spoil⟩
  · rw [hb] at c9
    have hB : S.nameB = false := by simp [Ps.nameB, hb]
    have HS := hid (show S.name = S.spoilt by simp [Ps.name, hB])
    have HT := hid (show S.nameT = ⟨#[]⟩ by simp [Ps.nameT, hB])
    clear hB hb
    go_enter Try.func88, Try.ntmps88
    go_wp2_with fail
    go_ret
    exact ⟨ret_str HT.out, by rw [HS.out]; exact H.out.spoil⟩
set_option maxHeartbeats 800000 in
set_option maxRecDepth 100000 in
theorem end_c (h : PI w a ok v S) : Calls Try.prog 87 #[ptr a] w fun e w' => e = .returned (.tuple #[]) ∧ Nx w a ok w' S.endS := by
  cases hb : S.hasB (⟨#[59]⟩ : ByteArray)
  · have e1 := has_c h (⟨#[59]⟩ : ByteArray)
    rw [hb, show S.has (⟨#[59]⟩ : ByteArray) = S by simp [Ps.has, hb]] at e1
    have HE1 := hid e1
    unfold ptr at HE1 ⊢
    cases hbad : S.bad
    · by_cases hk : S.t.kind = 0
      · have HS := hid (show S.endS = S by simp [Ps.endS, hb, hbad, hk])
        clear hb e1 h
        go_enter Try.func87, Try.ntmps87
        go_wp2_with fail
        refine HE1.out.mono ?_
        rintro e w1 ⟨rfl, hN⟩
        obtain ⟨ok1, v1, h1, _, _⟩ := id hN
        have c9 := h1.c9
        have c1 := h1.c1
        rw [hbad] at c9
        rw [hk] at c1
        have HN := hid hN
        clear hN h1 hk hbad
        go_wp2_with fail
        exact bodyPost_end (results_none rfl _ _ _) rfl ⟨rfl, by rw [HS.out]; exact HN.out⟩
      · have hk1 : (S.t.kind != 0) = true := by simpa using hk
        cases hi : S.is (⟨#[125]⟩ : ByteArray)
        · cases hl : S.t.line
          · have HS := hid (show S.endS = S.spoilt by simp [Ps.endS, hb, hbad, hk, hi, hl])
            clear hb e1 h
            go_enter Try.func87, Try.ntmps87
            go_wp2_with fail
            refine HE1.out.mono ?_
            rintro e w1 ⟨rfl, hN⟩
            obtain ⟨ok1, v1, h1, k1, s1⟩ := hN
            have c9 := h1.c9
            have c1 := h1.c1
            have c5 := h1.c5
            have f9 := h1.f 9
            have e2 := is_c h1 (⟨#[125]⟩ : ByteArray)
            unfold ptr at e2
            rw [hbad] at c9
            rw [hl] at c5
            rw [hi] at e2
            have HE2 := hid e2
            have H1 := hid h1
            have HK1 := hid k1
            have HS1 := hid s1
            clear h1 k1 s1 e2 hk hbad hi hl
            go_wp2_with (go_at_call 49; refine HE2.out.mono ?_; rintro e w2 ⟨rfl, rfl⟩)
            exact bodyPost_end (results_none rfl _ _ _) rfl ⟨rfl, by rw [HS.out]; exact Nx.trans ⟨ok1, v1, H1.out, HK1.out, HS1.out⟩ (fun _ _ h => h.spoil)⟩
          · have HS := hid (show S.endS = S by simp [Ps.endS, hb, hbad, hl])
            clear hb e1 h
            go_enter Try.func87, Try.ntmps87
            go_wp2_with fail
            refine HE1.out.mono ?_
            rintro e w1 ⟨rfl, hN⟩
            obtain ⟨ok1, v1, h1, _, _⟩ := id hN
            have c9 := h1.c9
            have c1 := h1.c1
            have c5 := h1.c5
            have e2 := is_c h1 (⟨#[125]⟩ : ByteArray)
            unfold ptr at e2
            rw [hbad] at c9
            rw [hl] at c5
            rw [hi] at e2
            have HE2 := hid e2
            have HN := hid hN
            clear h1 hN e2 hk hbad hi hl
            go_wp2_with (go_at_call 49; refine HE2.out.mono ?_; rintro e w2 ⟨rfl, rfl⟩)
            exact bodyPost_end (results_none rfl _ _ _) rfl ⟨rfl, by rw [HS.out]; exact HN.out⟩
        · have HS := hid (show S.endS = S by simp [Ps.endS, hb, hbad, hi])
          clear hb e1 h
          go_enter Try.func87, Try.ntmps87
          go_wp2_with fail
          refine HE1.out.mono ?_
          rintro e w1 ⟨rfl, hN⟩
          obtain ⟨ok1, v1, h1, _, _⟩ := id hN
          have c9 := h1.c9
          have c1 := h1.c1
          have e2 := is_c h1 (⟨#[125]⟩ : ByteArray)
          unfold ptr at e2
          rw [hbad] at c9
          rw [hi] at e2
          have HE2 := hid e2
          have HN := hid hN
          clear h1 hN e2 hk hbad hi
          go_wp2_with (go_at_call 49; refine HE2.out.mono ?_; rintro e w2 ⟨rfl, rfl⟩)
          exact bodyPost_end (results_none rfl _ _ _) rfl ⟨rfl, by rw [HS.out]; exact HN.out⟩
    · have HS := hid (show S.endS = S by simp [Ps.endS, hb, hbad])
      clear hb e1 h
      go_enter Try.func87, Try.ntmps87
      go_wp2_with fail
      refine HE1.out.mono ?_
      rintro e w1 ⟨rfl, hN⟩
      obtain ⟨ok1, v1, h1, _, _⟩ := id hN
      have c9 := h1.c9
      rw [hbad] at c9
      have HN := hid hN
      clear hN h1 hbad
      go_wp2_with fail
      exact bodyPost_ret (v := .tuple #[]) (by simp [results, Try.results87, go_sem]) rfl ⟨rfl, by rw [HS.out]; exact HN.out⟩
  · have e1 := has_hit h (⟨#[59]⟩ : ByteArray) hb
    have HE1 := hid e1
    unfold ptr at HE1 ⊢
    have HS := hid (show S.endS = S.move by simp [Ps.endS, hb])
    clear hb e1 h
    go_enter Try.func87, Try.ntmps87
    go_wp2_with fail
    refine HE1.out.mono ?_
    rintro e w1 ⟨rfl, hN⟩
    have HN := hid hN
    clear hN
    go_wp2_with fail
    exact bodyPost_ret (v := .tuple #[]) (by simp [results, Try.results87, go_sem]) rfl ⟨rfl, by rw [HS.out]; exact HN.out⟩
end
end Go.Proofs.Yticbjhicjegfoaa.Q
