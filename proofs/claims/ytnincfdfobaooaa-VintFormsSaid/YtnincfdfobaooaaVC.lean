/- Contracts of the functions of vint and of the document's own, each by the plain function that it answers; conditions: numbers of 64 bits, texts of at most 2^47 bytes. -/
import Derived.Test.YtnincfdfobaooaaVR
import Derived.Test.YtnincfdfobaooaaOver
namespace Go.Proofs.Ytnincfdfobaooaa.VC
open Go.RowKit Go.Proofs.YtnincfdfobaooaaW.PrintWords Go.Proofs.YtnincfdfobaooaaW.PrintLast Go.Proofs.YtnincfdfobaooaaW.PrintMore
open Go.Proofs.Ytnincfdfobaooaa.PVint Go.Proofs.Ytnincfdfobaooaa.VM

theorem put_c (n : Int) (hn : I64 n) (w : World) : Calls Try.prog 10 #[.int .i64 n] w fun e w' => e = .returned (.string (P n)) ∧ Below w.heap.size w w' :=
  vint_Put.calls 10 n (P n) w (put 10 n hn (by omega))
theorem rput_c (n : Int) (hn : I64 n) (w : World) : Calls Try.prog 16 #[.int .i64 n] w fun e w' => e = .returned (.string (P n)) ∧ Below w.heap.size w w' :=
  boomerangref1_Put.calls 10 n (P n) w (rput 10 n hn (by omega))
theorem text_c (t : ByteArray) (ht : t.size ≤ 140737488355328) (w : World) : Calls Try.prog 17 #[.string t] w fun e w' => e = .returned (.string (TX t)) ∧ Below w.heap.size w w' :=
  vint_Text.calls 10 t (TX t) w (txt 10 t ht (by omega))
theorem rtext_c (t : ByteArray) (ht : t.size ≤ 140737488355328) (w : World) : Calls Try.prog 18 #[.string t] w fun e w' => e = .returned (.string (TX t)) ∧ Below w.heap.size w w' :=
  boomerangref1_Text.calls 10 t (TX t) w (rtxt 10 t ht (by omega))
theorem get_c {s : ByteArray} {p n m e : Int} (h : G s p = (n, m, e)) (hs : s.size ≤ 140737488355328) (w : World) :
    Calls Try.prog 11 #[.string s, .int .i64 p] w fun e' w' => e' = .returned (.tuple #[.int .i64 n, .int .i64 m, .int .i64 e]) ∧ Below w.heap.size w w' :=
  vint_Get.calls 22 s p n m e w (by rw [get 22 s p hs (by omega), h])
theorem rget_c {s : ByteArray} {p n m e : Int} (h : G s p = (n, m, e)) (hs : s.size ≤ 140737488355328) (w : World) :
    Calls Try.prog 14 #[.string s, .int .i64 p] w fun e' w' => e' = .returned (.agg #[.int .i64 n, .int .i64 m, .int .i64 e]) ∧ Below w.heap.size w w' :=
  boomerangref1_Get.calls 22 s p n m e w (by rw [rget 22 s p hs (by omega), h])
theorem getText_c {s : ByteArray} {p m e : Int} {t : ByteArray} (h : GT s p = (t, m, e)) (hs : s.size ≤ 140737488355328) (w : World) :
    Calls Try.prog 13 #[.string s, .int .i64 p] w fun e' w' => e' = .returned (.tuple #[.string t, .int .i64 m, .int .i64 e]) ∧ Below w.heap.size w w' :=
  vint_GetText.calls 23 s p t m e w (by rw [getText 23 s p hs (by omega), h])
theorem rgetText_c {s : ByteArray} {p m e : Int} {t : ByteArray} (h : GT s p = (t, m, e)) (hs : s.size ≤ 140737488355328) (w : World) :
    Calls Try.prog 15 #[.string s, .int .i64 p] w fun e' w' => e' = .returned (.agg #[.string t, .int .i64 m, .int .i64 e]) ∧ Below w.heap.size w w' :=
  boomerangref1_GetText.calls 23 s p t m e w (by rw [rgetText 23 s p hs (by omega), h])
theorem err_c (n : Int) (w : World) : Calls Try.prog 12 #[.int .i64 n] w fun e w' => e = .returned (.int .i64 n) ∧ Below w.heap.size w w' :=
  (boomeranglaw1_Err.calls n n w rfl).mono fun _ _ ⟨he, k, hk⟩ => ⟨he, by subst hk; exact pw_below_drewN (Below.refl _ _) k⟩
theorem awake_c (w : World) : Calls Try.prog 9 #[] w fun e w' => e = .returned (.bool true) ∧ Below w.heap.size w w' :=
  boomeranglaw1_awake.calls 22 true w (awake 22 (by omega))
theorem i64_wf {x : Int} (h : (Lit.int .i64 x).wf = true) : I64 x := by
  simp [Lit.wf, IntKind.min, IntKind.max, IntKind.signed, IntKind.bits] at h
  exact ⟨h.1, by omega⟩
theorem u8_wf {x : Int} (h : (Lit.int .u8 x).wf = true) : 0 ≤ x ∧ x < 256 := by
  simp [Lit.wf, IntKind.min, IntKind.max, IntKind.signed, IntKind.bits] at h
  exact ⟨h.1, by omega⟩
end Go.Proofs.Ytnincfdfobaooaa.VC
