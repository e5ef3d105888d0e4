/- The law VintAll answers true, whatever the input: its walk. -/
import Derived.Test.YtnincfdfobaooaaVC

namespace Go.Proofs.Ytnincfdfobaooaa.VAll
open Go.RowKit Go.Proofs.Ytnincfdfobaooaa.VM Go.Proofs.Ytnincfdfobaooaa.VC Go.Proofs.Ytnincfdfobaooaa.Ov

theorem triple {α : Type} (x : α × Int × Int) : ∃ a b c, x = (a, b, c) := ⟨x.1, x.2.1, x.2.2, rfl⟩

set_option maxHeartbeats 1000000 in
set_option maxRecDepth 100000 in
theorem all_calls (n p : Int) (t s : ByteArray) (w : World) (hn : I64 n) (ht : t.size ≤ 140737488351232) (hs : s.size ≤ 140737488351232) :
    Calls Try.prog 6 #[.int .i64 n, .string t, .string s, .int .i64 p] w fun e w' => e = .returned (.bool true) ∧ Below w.heap.size w w' := by
  by_cases ht3 : (300 : Int) < (t.size : Int)
  · go_enter Try.func6, Try.ntmps6
    go_wp2_with (go_at_call 9; refine (awake_c _).mono ?_; rintro e w' ⟨rfl, hb⟩)
    go_ret
    exact ⟨rfl, hb⟩
  by_cases hs5 : (500 : Int) < (s.size : Int)
  · go_enter Try.func6, Try.ntmps6
    go_wp2_with (go_at_call 9; refine (awake_c _).mono ?_; rintro e w' ⟨rfl, hb⟩)
    go_ret
    exact ⟨rfl, hb⟩
  obtain ⟨g1, g2, g3, hg⟩ := triple (G s p)
  obtain ⟨k1, k2, k3, hk⟩ := triple (GT s p)
  have HG := hid hg
  have HK := hid hk
  clear hg hk
  go_enter Try.func6, Try.ntmps6
  go_wp2_with fail
  refine (get_c HG.out (by omega) _).mono ?_
  rintro e w1 ⟨rfl, hb1⟩
  go_wp2_with fail
  refine (rget_c HG.out (by omega) _).mono ?_
  rintro e w2 ⟨rfl, hb2⟩
  go_wp2_with fail
  refine (getText_c HK.out (by omega) _).mono ?_
  rintro e w3 ⟨rfl, hb3⟩
  go_wp2_with fail
  refine (rgetText_c HK.out (by omega) _).mono ?_
  rintro e w4 ⟨rfl, hb4⟩
  go_wp2_with fail
  have r1 : (w4.alloc (.cells #[Value.string k1, Value.int IntKind.i64 k2, Value.int IntKind.i64 k3] 40)).heap[w2.heap.size]? = some (.cells #[Value.int IntKind.i64 g1, Value.int IntKind.i64 g2, Value.int IntKind.i64 g3] 37) :=
    old_row (below_row hb4 (below_row hb3 (new_row w2 _) (by simp)) (by have := hb3.size; simp at this; omega))
  have r2 := new_row w4 (.cells #[Value.string k1, Value.int IntKind.i64 k2, Value.int IntKind.i64 k3] 40)
  have hbW : Below w.heap.size w (w4.alloc (.cells #[Value.string k1, Value.int IntKind.i64 k2, Value.int IntKind.i64 k3] 40)) := by
    have s1 := hb1.size; have s2 := hb2.size; have s3 := hb3.size; have s4 := hb4.size
    simp at s3
    exact (((hb1.trans (hb2.mono (by omega))).alloc (by omega) _).trans ((hb3.mono (by simp; omega)).trans (hb4.mono (by omega)))).alloc (by omega) _
  generalize (w4.alloc (.cells #[Value.string k1, Value.int IntKind.i64 k2, Value.int IntKind.i64 k3] 40)) = W at r1 r2 hbW ⊢
  have c0 := ov_row r1 0 (v := Value.int .i64 g1) rfl
  have c1 := ov_row r1 1 (v := Value.int .i64 g2) rfl
  have c2 := ov_row r1 2 (v := Value.int .i64 g3) rfl
  have d0 := ov_row r2 0 (v := Value.string k1) rfl
  have d1 := ov_row r2 1 (v := Value.int .i64 k2) rfl
  have d2 := ov_row r2 2 (v := Value.int .i64 k3) rfl
  clear r1 r2 hb1 hb2 hb3 hb4
  refine wp_region_over_lit (by kernel_rfl) (by kernel_rfl) ?_
  repeat (first
    | go_big_quiet_step ((first | (go_at_call 10; exact calls_over (put_c n hn _)) | (go_at_call 16; exact calls_over (rput_c n hn _)) | (go_at_call 17; exact calls_over (text_c t (by omega) _)) | (go_at_call 18; exact calls_over (rtext_c t (by omega) _)) | (go_at_call 12; exact calls_over (err_c _ _)) | (go_at_call 9; exact calls_over (awake_c _)))))
  refine wpQuiet_nil ?_
  intro W' hW'
  obtain ⟨x, rfl⟩ := hW'
  go_wp2
  go_ret
  exact ⟨rfl, hbW.trans ((ov_below x).mono hbW.size)⟩
end Go.Proofs.Ytnincfdfobaooaa.VAll
