/- A state of the law's own; promise's small calls. -/
import Derived.Test.YtdgpblhmfkpblaaSt9
namespace Go.Proofs.Ytdgpblhmfkpblaa.Pg
open Go.RowKit

theorem own_of_block {w : World} {b n sz T : Nat} {cs : Array Value} (h : w.heap[b]? = some (.cells cs T (0, 0))) (hs : cs.size = n * sz) (hn : n ≤ maxLen) : w.ownsRow b T sz (.slice (some ⟨b, 0, none⟩) n n) n cs.toList :=
  ⟨by simpa using hs, .inr ⟨b, n, cs, rfl, Nat.le_refl _, h, Nat.le_refl _, hn, hs, by rw [List.take_of_length_le (by simp [hs])]⟩⟩
def insFun (slots : Int) (code : Value) : FunD := ⟨ByteArray.empty, 0, slots, false, code⟩
def p0 : PS := ⟨0, [scopeC 0 [holeV]], [⟨0, 0, 1, undefV, [], [], 0⟩], [], []⟩
set_option maxHeartbeats 800000 in
set_option maxRecDepth 100000 in
theorem l17state_c (w : World) : Calls Try.prog 29 #[.slice none 0 0] w fun e w' => ∃ a, e = .returned (.pointer (some ⟨a, 0, none⟩)) ∧ ∃ B' D G, St1 B' w' D G p0 ∧ G.at_ = a ∧ B'.n = w.heap.size ∧ Below w.heap.size w w' := by
  go_enter Try.func29, Try.ntmps29
  go_wp2_with fail
  have hb : Below w.heap.size w ((w.alloc (Obj.cells #[.int .i64 1, .int .i64 0, .int .i64 0, .string ⟨#[]⟩, .int .i64 31, .int .i64 0, .int .i64 0, .string ⟨#[]⟩] 128)).alloc (Obj.cells #[.string ⟨#[]⟩, .int .i64 0, .int .i64 1, .bool false, .slice (some ⟨w.heap.size, 0, none⟩) 2 2] 28)) :=
    ((Below.refl _ _).alloc (Nat.le_refl _) _).alloc (by simp) _
  have r1 := heap_alloc_new (w.alloc (Obj.cells #[.int .i64 1, .int .i64 0, .int .i64 0, .string ⟨#[]⟩, .int .i64 31, .int .i64 0, .int .i64 0, .string ⟨#[]⟩] 128)) (Obj.cells #[.string ⟨#[]⟩, .int .i64 0, .int .i64 1, .bool false, .slice (some ⟨w.heap.size, 0, none⟩) 2 2] 28)
  rw [show (w.alloc (Obj.cells #[.int .i64 1, .int .i64 0, .int .i64 0, .string ⟨#[]⟩, .int .i64 31, .int .i64 0, .int .i64 0, .string ⟨#[]⟩] 128)).heap.size = w.heap.size + 1 by simp] at r1
  generalize ((w.alloc (Obj.cells #[.int .i64 1, .int .i64 0, .int .i64 0, .string ⟨#[]⟩, .int .i64 31, .int .i64 0, .int .i64 0, .string ⟨#[]⟩] 128)).alloc (Obj.cells #[.string ⟨#[]⟩, .int .i64 0, .int .i64 1, .bool false, .slice (some ⟨w.heap.size, 0, none⟩) 2 2] 28)) = W at hb r1 ⊢
  have hF : RowR (here w) W 5 (.slice (some ⟨w.heap.size + 1, 0, none⟩) 1 1) ([insFun 1 (.slice (some ⟨w.heap.size, 0, none⟩) 2 2)].map FunD.row) :=
    RowR.of_own (rows := [FunD.row (insFun 1 (.slice (some ⟨w.heap.size, 0, none⟩) 2 2))]) (own_of_block (n := 1) (sz := 5) r1 rfl (by decide)) (by decide) (fun k hk => hk.elim) (by simp [FunD.row]) rfl
  refine (snew_c (B := here w) hb.size (fun k hk => hk.elim) hF rfl rfl ⟨_, _, _, rfl⟩ (by simp [insFun]) (by simp [insFun])).mono ?_
  rintro e w1 ⟨a, rfl, B', D, G, hS, rfl, hfu, hE, hf, hb1⟩
  have c0 := hS.ok.c (k := 0) (u := ptr G.hp) rfl
  have HS := hid hS
  have HB := hid (hb.trans (hb1.mono hb.size))
  have HE := hid hE
  clear hS hE hf hb1 hb hF r1
  unfold ptr at c0
  go_wp2_with (go_at_call 14; refine (err_c 0 _).mono ?_; rintro e w2 ⟨rfl, rfl⟩)
  go_loopw [5] (fun i wx => i = .int .i64 0 ∧ wx = w2) (fun _ _ => 0)
  case atStart => exact ⟨rfl, rfl⟩
  case round =>
    obtain ⟨rfl, rfl⟩ := hrel
    go_wp2_with fail
    go_ret
    exact ⟨_, rfl, B', D, G, HS.out, rfl, HE.out.hn, HB.out⟩
end Go.Proofs.Ytdgpblhmfkpblaa.Pg
