/- Contracts of slices.Clone, at the four kinds of rows that package pages clones. -/
import Derived.Test.YtdgpblhmfkpblaaPg0
import Derived.Lib.SliceRun
namespace Go.Proofs.Ytdgpblhmfkpblaa.Pg
open Go.RowKit

theorem cell_alloc_old {w : World} {a : Addr} {u : Value} {o : Obj} (h : w.cell? a = some u) : (w.alloc o).cell? a = some u :=
  (World.cell?_of_block (w := w) (heap_alloc_old w o (World.block_lt_of_cell? w a h))).trans h

theorem infoStr : (Try.prog.info? 9).map (fun i => (i.zero, i.size, i.bytes)) = some (some (.string ByteArray.empty), 1, 16) := by kernel_rfl

set_option maxHeartbeats 400000 in
set_option maxRecDepth 100000 in
theorem cloneStr_nil (w : World) : Calls Try.prog 118 #[.slice none 0 0] w fun e w' => e = .returned (.slice none 0 0) ∧ w' = w := by
  have hq := fun (w : World) (a : Option Addr) (n c n' c' : Nat) => Lib.run_eql_slice_nil (P := Try.prog) w 42 9 a n c n' c' Try.underlying42
  go_enter Try.func118, Try.ntmps118
  go_wp2_with fail
  go_ret
  exact ⟨rfl, rfl⟩

set_option maxHeartbeats 400000 in
set_option maxRecDepth 100000 in
theorem cloneStr_some (ad : Addr) (m c : Nat) (news : List Value) (w : World) (hl : news.length = m * 1) (hn : ∀ j u, news[j]? = some u → w.cell? (ad.add j) = some u) (h1 : ∀ u ∈ news, u.oneCell' = true) (hb : m * 16 ≤ 140737488355328) :
    Calls Try.prog 118 #[.slice (some ad) m c] w fun e w' => ∃ v', e = .returned v' ∧ Below w.heap.size w w' ∧ w'.ownsRow w.heap.size 9 1 v' m news := by
  have hq := fun (w : World) (a : Option Addr) (n c n' c' : Nat) => Lib.run_eql_slice_nil (P := Try.prog) w 42 9 a n c n' c' Try.underlying42
  obtain ⟨i0, hi, hz0, hz1, hz2⟩ := info_parts infoStr
  have HN := hid hn
  have H1 := hid h1
  have HI := hid hi
  have hm : m ≤ maxLen := by unfold maxLen; omega
  clear hn h1 hi
  go_enter Try.func118, Try.ntmps118
  go_wp2_with (at_builtin; refine wpList_append_own _ rfl _ _ 42 rfl w.heap.size 9 i0 (.string ByteArray.empty) 1 16 Try.underlying42 HI.out hz0 hz1 hz2 rfl (by decide) (.slice (some ⟨w.heap.size, 0, none⟩) 0 0) 0 [] ?c1 ?c2 ad m c news ?c3 hl ?c4 H1.out ?c5 ?c6 ?c7 ?c8; (case c1 => rfl); (case c2 => exact World.ownsRow_made w #[] 0 (Nat.le_refl _) (Nat.zero_le _) rfl); (case c3 => rfl); (case c4 => exact fun j u hu => cell_alloc_old (HN.out j u hu)); (case c5 => omega); (case c6 => omega); (case c7 => simp); intro v' w1 hown hg hnil; rw [Nat.zero_add, List.nil_append] at hown; have hbel : Below w.heap.size w w1 := ((Below.refl w.heap.size w).alloc (Nat.le_refl _) _).grown hg (by simp) (fun k hk => by simp [Value.ownBlock] at hk; omega); clear hg hnil; have HO := hid hown; have HB := hid hbel; clear hown hbel)
  go_ret
  exact ⟨_, rfl, HB.out, HO.out⟩

theorem infoVal : (Try.prog.info? 33).map (fun i => (i.zero, i.size, i.bytes)) = some (some (.agg #[.int .i64 0, .int .i64 0, .string ByteArray.empty]), 3, 32) := by kernel_rfl

set_option maxHeartbeats 400000 in
set_option maxRecDepth 100000 in
theorem cloneVal_nil (w : World) : Calls Try.prog 119 #[.slice none 0 0] w fun e w' => e = .returned (.slice none 0 0) ∧ w' = w := by
  have hq := fun (w : World) (a : Option Addr) (n c n' c' : Nat) => Lib.run_eql_slice_nil (P := Try.prog) w 31 33 a n c n' c' Try.underlying31
  go_enter Try.func119, Try.ntmps119
  go_wp2_with fail
  go_ret
  exact ⟨rfl, rfl⟩

set_option maxHeartbeats 400000 in
set_option maxRecDepth 100000 in
theorem cloneVal_some (ad : Addr) (m c : Nat) (news : List Value) (w : World) (hl : news.length = m * 3) (hn : ∀ j u, news[j]? = some u → w.cell? (ad.add j) = some u) (h1 : ∀ u ∈ news, u.oneCell' = true) (hb : m * 32 ≤ 140737488355328) :
    Calls Try.prog 119 #[.slice (some ad) m c] w fun e w' => ∃ v', e = .returned v' ∧ Below w.heap.size w w' ∧ w'.ownsRow w.heap.size 33 3 v' m news := by
  have hq := fun (w : World) (a : Option Addr) (n c n' c' : Nat) => Lib.run_eql_slice_nil (P := Try.prog) w 31 33 a n c n' c' Try.underlying31
  obtain ⟨i0, hi, hz0, hz1, hz2⟩ := info_parts infoVal
  have HN := hid hn
  have H1 := hid h1
  have HI := hid hi
  have hm : m ≤ maxLen := by unfold maxLen; omega
  clear hn h1 hi
  go_enter Try.func119, Try.ntmps119
  go_wp2_with (at_builtin; refine wpList_append_own _ rfl _ _ 31 rfl w.heap.size 33 i0 (.agg #[.int .i64 0, .int .i64 0, .string ByteArray.empty]) 3 32 Try.underlying31 HI.out hz0 hz1 hz2 rfl (by decide) (.slice (some ⟨w.heap.size, 0, none⟩) 0 0) 0 [] ?c1 ?c2 ad m c news ?c3 hl ?c4 H1.out ?c5 ?c6 ?c7 ?c8; (case c1 => rfl); (case c2 => exact World.ownsRow_made w #[] 0 (Nat.le_refl _) (Nat.zero_le _) rfl); (case c3 => rfl); (case c4 => exact fun j u hu => cell_alloc_old (HN.out j u hu)); (case c5 => omega); (case c6 => omega); (case c7 => simp); intro v' w1 hown hg hnil; rw [Nat.zero_add, List.nil_append] at hown; have hbel : Below w.heap.size w w1 := ((Below.refl w.heap.size w).alloc (Nat.le_refl _) _).grown hg (by simp) (fun k hk => by simp [Value.ownBlock] at hk; omega); clear hg hnil; have HO := hid hown; have HB := hid hbel; clear hown hbel)
  go_ret
  exact ⟨_, rfl, HB.out, HO.out⟩

theorem infoCells : (Try.prog.info? 47).map (fun i => (i.zero, i.size, i.bytes)) = some (some (.agg #[.int .i64 0, .int .i64 0, .int .i64 0, .slice none 0 0, .slice none 0 0]), 5, 72) := by kernel_rfl

set_option maxHeartbeats 400000 in
set_option maxRecDepth 100000 in
theorem cloneCells_nil (w : World) : Calls Try.prog 120 #[.slice none 0 0] w fun e w' => e = .returned (.slice none 0 0) ∧ w' = w := by
  have hq := fun (w : World) (a : Option Addr) (n c n' c' : Nat) => Lib.run_eql_slice_nil (P := Try.prog) w 37 47 a n c n' c' Try.underlying37
  go_enter Try.func120, Try.ntmps120
  go_wp2_with fail
  go_ret
  exact ⟨rfl, rfl⟩

set_option maxHeartbeats 400000 in
set_option maxRecDepth 100000 in
theorem cloneCells_some (ad : Addr) (m c : Nat) (news : List Value) (w : World) (hl : news.length = m * 5) (hn : ∀ j u, news[j]? = some u → w.cell? (ad.add j) = some u) (h1 : ∀ u ∈ news, u.oneCell' = true) (hb : m * 72 ≤ 140737488355328) :
    Calls Try.prog 120 #[.slice (some ad) m c] w fun e w' => ∃ v', e = .returned v' ∧ Below w.heap.size w w' ∧ w'.ownsRow w.heap.size 47 5 v' m news := by
  have hq := fun (w : World) (a : Option Addr) (n c n' c' : Nat) => Lib.run_eql_slice_nil (P := Try.prog) w 37 47 a n c n' c' Try.underlying37
  obtain ⟨i0, hi, hz0, hz1, hz2⟩ := info_parts infoCells
  have HN := hid hn
  have H1 := hid h1
  have HI := hid hi
  have hm : m ≤ maxLen := by unfold maxLen; omega
  clear hn h1 hi
  go_enter Try.func120, Try.ntmps120
  go_wp2_with (at_builtin; refine wpList_append_own _ rfl _ _ 37 rfl w.heap.size 47 i0 (.agg #[.int .i64 0, .int .i64 0, .int .i64 0, .slice none 0 0, .slice none 0 0]) 5 72 Try.underlying37 HI.out hz0 hz1 hz2 rfl (by decide) (.slice (some ⟨w.heap.size, 0, none⟩) 0 0) 0 [] ?c1 ?c2 ad m c news ?c3 hl ?c4 H1.out ?c5 ?c6 ?c7 ?c8; (case c1 => rfl); (case c2 => exact World.ownsRow_made w #[] 0 (Nat.le_refl _) (Nat.zero_le _) rfl); (case c3 => rfl); (case c4 => exact fun j u hu => cell_alloc_old (HN.out j u hu)); (case c5 => omega); (case c6 => omega); (case c7 => simp); intro v' w1 hown hg hnil; rw [Nat.zero_add, List.nil_append] at hown; have hbel : Below w.heap.size w w1 := ((Below.refl w.heap.size w).alloc (Nat.le_refl _) _).grown hg (by simp) (fun k hk => by simp [Value.ownBlock] at hk; omega); clear hg hnil; have HO := hid hown; have HB := hid hbel; clear hown hbel)
  go_ret
  exact ⟨_, rfl, HB.out, HO.out⟩

theorem infoPg : (Try.prog.info? 167).map (fun i => (i.zero, i.size, i.bytes)) = some (some (.pointer none), 1, 8) := by kernel_rfl

set_option maxHeartbeats 400000 in
set_option maxRecDepth 100000 in
theorem clonePg_nil (w : World) : Calls Try.prog 117 #[.slice none 0 0] w fun e w' => e = .returned (.slice none 0 0) ∧ w' = w := by
  have hq := fun (w : World) (a : Option Addr) (n c n' c' : Nat) => Lib.run_eql_slice_nil (P := Try.prog) w 169 167 a n c n' c' Try.underlying169
  go_enter Try.func117, Try.ntmps117
  go_wp2_with fail
  go_ret
  exact ⟨rfl, rfl⟩

set_option maxHeartbeats 400000 in
set_option maxRecDepth 100000 in
theorem clonePg_some (ad : Addr) (m c : Nat) (news : List Value) (w : World) (hl : news.length = m * 1) (hn : ∀ j u, news[j]? = some u → w.cell? (ad.add j) = some u) (h1 : ∀ u ∈ news, u.oneCell' = true) (hb : m * 8 ≤ 140737488355328) :
    Calls Try.prog 117 #[.slice (some ad) m c] w fun e w' => ∃ v', e = .returned v' ∧ Below w.heap.size w w' ∧ w'.ownsRow w.heap.size 167 1 v' m news := by
  have hq := fun (w : World) (a : Option Addr) (n c n' c' : Nat) => Lib.run_eql_slice_nil (P := Try.prog) w 169 167 a n c n' c' Try.underlying169
  obtain ⟨i0, hi, hz0, hz1, hz2⟩ := info_parts infoPg
  have HN := hid hn
  have H1 := hid h1
  have HI := hid hi
  have hm : m ≤ maxLen := by unfold maxLen; omega
  clear hn h1 hi
  go_enter Try.func117, Try.ntmps117
  go_wp2_with (at_builtin; refine wpList_append_own _ rfl _ _ 169 rfl w.heap.size 167 i0 (.pointer none) 1 8 Try.underlying169 HI.out hz0 hz1 hz2 rfl (by decide) (.slice (some ⟨w.heap.size, 0, none⟩) 0 0) 0 [] ?c1 ?c2 ad m c news ?c3 hl ?c4 H1.out ?c5 ?c6 ?c7 ?c8; (case c1 => rfl); (case c2 => exact World.ownsRow_made w #[] 0 (Nat.le_refl _) (Nat.zero_le _) rfl); (case c3 => rfl); (case c4 => exact fun j u hu => cell_alloc_old (HN.out j u hu)); (case c5 => omega); (case c6 => omega); (case c7 => simp); intro v' w1 hown hg hnil; rw [Nat.zero_add, List.nil_append] at hown; have hbel : Below w.heap.size w w1 := ((Below.refl w.heap.size w).alloc (Nat.le_refl _) _).grown hg (by simp) (fun k hk => by simp [Value.ownBlock] at hk; omega); clear hg hnil; have HO := hid hown; have HB := hid hbel; clear hown hbel)
  go_ret
  exact ⟨_, rfl, HB.out, HO.out⟩
end Go.Proofs.Ytdgpblhmfkpblaa.Pg
