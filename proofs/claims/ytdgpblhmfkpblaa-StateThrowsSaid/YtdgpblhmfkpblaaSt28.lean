/- The document's example of package state. -/
import Derived.Test.YtdgpblhmfkpblaaSt27
namespace Go.Proofs.Ytdgpblhmfkpblaa.Pg
open Go.RowKit

set_option maxHeartbeats 1600000 in
set_option maxRecDepth 100000 in
theorem awake16_c (w : World) : Calls Try.prog 20 #[] w fun e w' => e = .returned (.bool true) ∧ Below w.heap.size w w' := by
  have hb : Below w.heap.size w (w.alloc (Obj.cells #[.string ⟨#[]⟩, .int .i64 0, .int .i64 0, .bool false, .slice none 0 0] 28)) := (Below.refl _ _).alloc (Nat.le_refl _) _
  have r1 := heap_alloc_new w (Obj.cells #[.string ⟨#[]⟩, .int .i64 0, .int .i64 0, .bool false, .slice none 0 0] 28)
  go_enter Try.func20, Try.ntmps20
  go_wp2_with fail
  generalize (w.alloc (Obj.cells #[.string ⟨#[]⟩, .int .i64 0, .int .i64 0, .bool false, .slice none 0 0] 28)) = W at hb r1 ⊢
  have hF : RowR (here w) W 5 (.slice (some ⟨w.heap.size, 0, none⟩) 1 1) ([insFun 0 (.slice none 0 0)].map FunD.row) :=
    RowR.of_own (rows := [FunD.row (insFun 0 (.slice none 0 0))]) (own_of_block (n := 1) (sz := 5) r1 rfl (by decide)) (by decide) (fun k hk => hk.elim) (by simp [FunD.row]) rfl
  refine (snew_c (B := here w) hb.size (fun k hk => hk.elim) hF rfl rfl ⟨_, _, _, rfl⟩ (by simp [insFun]) (by simp [insFun])).mono ?_
  rintro e w1 ⟨a, rfl, B', D, G, hS, rfl, hfu, hE, hf, hb1⟩
  have HS := hid hS
  have HB := hid (hb.trans (hb1.mono hb.size))
  clear hS hE hf hb1 hb hF r1
  go_wp2_with (go_at_call 14; refine (err_c 0 _).mono ?_; rintro e w2 ⟨rfl, hw2⟩; subst w2)
  refine (all_c HS.out ⟨by decide, by decide, by decide, by decide, by simp⟩).mono ?_
  rintro e w3 ⟨v, rfl, hb3, hv⟩
  obtain ⟨Ac, pc, A1, p1, A2, p2, A3, p3, rows, rfl, hv⟩ := hv.form
  have HB3 := hid (HB.out.trans ((hb3.trans (((Below.refl w3.heap.size w3).alloc (Nat.le_refl _) (Obj.cells #[.int .i64 0, .int .i64 0, .int .i64 0, .slice Ac 1 pc, .slice A1 1 p1, .int .i64 0, .slice A2 0 p2, .slice none 0 0, .int .i64 0, .slice none 0 0, .slice none 0 0, .slice A3 0 p3] 44)).mono hb3.size)).mono HB.out.size))
  clear hb3 hv
  dsimp only [List.length_cons, List.length_nil]
  go_wp2_with fail
  go_ret
  exact ⟨rfl, HB3.out⟩
end Go.Proofs.Ytdgpblhmfkpblaa.Pg
