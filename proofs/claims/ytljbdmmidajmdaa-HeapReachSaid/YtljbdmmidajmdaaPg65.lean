/- Where a cell leads, by the document. -/
import Derived.Test.YtljbdmmidajmdaaPg64
import Derived.Deep.CutBlock
namespace Go.Proofs.Ytljbdmmidajmdaa.Pg
open Go.RowKit Go.Maps
attribute [local go_sem ↓] Go.wp_at_zero Go.wp_at_succ

set_option maxHeartbeats 3200000 in
set_option maxRecDepth 100000 in
theorem rleads1 {B : Nat} {w : World} {c : CD} {A1 A2 : Option Addr} {n1 p1 n2 p2 : Nat} (hr : Reads B w c (.slice A1 n1 p1) (.slice A2 n2 p2)) (hn : n2 ≤ 100000) (h : c.kind = 1) :
    Calls Try.prog 56 #[.agg #[.int .i64 c.kind, .int .i64 c.a, .int .i64 c.b, .slice A1 n1 p1, .slice A2 n2 p2]] w fun e w' => ∃ g cap, e = .returned (.slice (some ⟨g, 0, none⟩) (leadVs c).length cap) ∧ OutV w' w.heap.size (.slice (some ⟨g, 0, none⟩) (leadVs c).length cap) (leadVs c) ∧ Below w.heap.size w w' := by
  obtain ⟨hl, hm, hA, hc⟩ := hr.v.news
  have k1 : (c.kind == (1 : Int)) = true := by rw [beq_iff_eq]; omega
  have k3 : (c.kind == (3 : Int)) = false := by rw [beq_eq_false_iff_ne]; omega
  have HK := hid h
  obtain ⟨i0, hi, hz0, hz1, hz2⟩ := info_parts infoVals
  have HI := hid hi
  have hbx := heap_alloc_new w (.cells #[.int .i64 c.kind, .int .i64 c.a, .int .i64 c.b, .slice A1 n1 p1, .slice A2 n2 p2] 31)
  have hw1 := (Below.refl w.heap.size w).alloc (Nat.le_refl _) (.cells #[.int .i64 c.kind, .int .i64 c.a, .int .i64 c.b, .slice A1 n1 p1, .slice A2 n2 p2] 31)
  have hsa : (w.alloc (.cells #[.int .i64 c.kind, .int .i64 c.a, .int .i64 c.b, .slice A1 n1 p1, .slice A2 n2 p2] 31)).heap.size = w.heap.size + 1 := by simp
  have hmade := World.ownsRow_made (base := w.heap.size) (e := 60) (size := 3) (w.alloc (.cells #[.int .i64 c.kind, .int .i64 c.a, .int .i64 c.b, .slice A1 n1 p1, .slice A2 n2 p2] 31)) #[] 0 (by simp) (Nat.zero_le _) rfl
  rw [hsa] at hmade
  have HMade := hid hmade
  have hww := hw1.alloc (by simp) (.cells #[] 60)
  have HBx := hid ((heap_alloc_old (w.alloc (.cells #[.int .i64 c.kind, .int .i64 c.a, .int .i64 c.b, .slice A1 n1 p1, .slice A2 n2 p2] 31)) (.cells #[] 60) (r := w.heap.size) (by simp)).trans hbx)
  have HNews := hid (fun ad e j u hj => keepc hww (hc ad e j u hj))
  have HSz := hid hww.size
  have HWW := hid hww
  have HLn := hid hl
  have HLen := hid (show (flatV c.vals).length = n2 * 3 by rw [flatV_length, hl])
  have HOne := hid (flatV_one (vs := c.vals))
  have HA2 := hid hA
  clear hr hl hm hA hc hi hbx hw1 hsa hmade hww h
  go_enter Try.func56, Try.ntmps56
  go_upto_region 2 with (at_builtin; refine wpList_copy _ rfl _ _ 29 rfl w.heap.size 60 i0 (.agg #[.int .i64 0, .int .i64 0, .string ByteArray.empty]) 3 32 Try.underlying29 HI.out hz0 hz1 hz2 rfl (by decide) (w.heap.size + 1) rfl HMade.out A2 n2 p2 (flatV c.vals) rfl HLen.out HNews.out HA2.out HOne.out (by unfold maxLen; omega) (by omega) HSz.out ?_; intro g4 cp4 w4 hown hgrow hat hlt4; have HB4 := hid (HWW.out.grown hgrow HSz.out (fun y hy => by simp at hy; omega)); have HOwn4 := hid hown; have hbx4 := (hgrow.block w.heap.size (by simp; omega) (by simp)).trans HBx.out; have HBx4 := hid hbx4; have e0 := cell_of_row w4 w.heap.size 0 _ _ _ HBx4.out; have e1 := cell_of_row w4 w.heap.size 1 _ _ _ HBx4.out; have e2 := cell_of_row w4 w.heap.size 2 _ _ _ HBx4.out; simp only [List.getElem?_toArray, List.getElem?_cons_zero, List.getElem?_cons_succ] at e0 e1 e2; have HG0 := hid (show w.heap.size + 1 ≤ g4 by rcases hat with e | e; omega; simp at e; omega); clear hown hgrow hat hlt4 hbx4)
  have HG4 := hid (show w.heap.size + 1 ≤ g4 from HG0.out)
  go_wp2_with (at_builtin; refine wpList_append_lies _ rfl _ _ 29 rfl w.heap.size 60 i0 (.agg #[.int .i64 0, .int .i64 0, .string ByteArray.empty]) 3 32 Try.underlying29 HI.out hz0 hz1 hz2 rfl (by decide) (.slice (some ⟨g4, 0, none⟩) n2 cp4) n2 (flatV c.vals) rfl (HOwn4.out.alloc (.cells #[.int .i64 5, .int .i64 c.a, .string ByteArray.empty] 60)) ⟨w4.heap.size, 0, none⟩ 1 1 [.int .i64 5, .int .i64 c.a, .string ByteArray.empty] rfl rfl (World.news_of_block (heap_alloc_new w4 (.cells #[.int .i64 5, .int .i64 c.a, .string ByteArray.empty] 60))) (by simp [Value.oneCell']) (by decide) (by unfold maxLen; omega) (by omega) (by have := HB4.out.size; simp; omega) _ rfl ?_; intro g6 cp6 w6 hown hgrow hat hlt6; have hb5 := HB4.out.trans (((Below.refl w4.heap.size w4).alloc (Nat.le_refl _) (.cells #[.int .i64 5, .int .i64 c.a, .string ByteArray.empty] 60)).mono HB4.out.size); have HB6 := hid (hb5.grown hgrow hb5.size (fun y hy => by simp [Value.ownBlock] at hy; have := (HOwn4.out.lt g4 rfl).1; omega)); have HOwn6 := hid hown; have hbx6 := (hgrow.block w.heap.size (by have := (Array.getElem?_eq_some_iff.1 HBx4.out).1; simp; omega) (by have := (HOwn4.out.lt g4 rfl).1; simp [Value.ownBlock]; intro e; exact absurd e (by have := HG4.out; omega))).trans ((heap_alloc_old w4 _ (Array.getElem?_eq_some_iff.1 HBx4.out).1).trans HBx4.out); have f0 := cell_of_row w6 w.heap.size 0 _ _ _ hbx6; have f1 := cell_of_row w6 w.heap.size 1 _ _ _ hbx6; have f2 := cell_of_row w6 w.heap.size 2 _ _ _ hbx6; simp only [List.getElem?_toArray, List.getElem?_cons_zero, List.getElem?_cons_succ] at f0 f1 f2; clear hown hgrow hat hlt6 hb5 hbx6)
  go_wp2_with fail
  go_ret
  have e : leadVs c = c.vals ++ [⟨5, c.a, ByteArray.empty⟩] := by unfold leadVs; simp [HK.out]
  unfold OutV
  rw [e, List.length_append, flatV_append, HLn.out]
  exact ⟨g6, cp6, rfl, HOwn6.out, HB6.out⟩
set_option maxHeartbeats 3200000 in
set_option maxRecDepth 100000 in
theorem rleads4 {B : Nat} {w : World} {c : CD} {A1 A2 : Option Addr} {n1 p1 n2 p2 : Nat} (hr : Reads B w c (.slice A1 n1 p1) (.slice A2 n2 p2)) (hn : n2 ≤ 100000) (h : c.kind = 4) :
    Calls Try.prog 56 #[.agg #[.int .i64 c.kind, .int .i64 c.a, .int .i64 c.b, .slice A1 n1 p1, .slice A2 n2 p2]] w fun e w' => ∃ g cap, e = .returned (.slice (some ⟨g, 0, none⟩) (leadVs c).length cap) ∧ OutV w' w.heap.size (.slice (some ⟨g, 0, none⟩) (leadVs c).length cap) (leadVs c) ∧ Below w.heap.size w w' := by
  obtain ⟨hl, hm, hA, hc⟩ := hr.v.news
  have k1 : (c.kind == (1 : Int)) = false := by rw [beq_eq_false_iff_ne]; omega
  have k4 : (c.kind == (4 : Int)) = true := by rw [beq_iff_eq]; omega
  have k3 : (c.kind == (3 : Int)) = false := by rw [beq_eq_false_iff_ne]; omega
  have HK := hid h
  obtain ⟨i0, hi, hz0, hz1, hz2⟩ := info_parts infoVals
  have HI := hid hi
  have hbx := heap_alloc_new w (.cells #[.int .i64 c.kind, .int .i64 c.a, .int .i64 c.b, .slice A1 n1 p1, .slice A2 n2 p2] 31)
  have hw1 := (Below.refl w.heap.size w).alloc (Nat.le_refl _) (.cells #[.int .i64 c.kind, .int .i64 c.a, .int .i64 c.b, .slice A1 n1 p1, .slice A2 n2 p2] 31)
  have hsa : (w.alloc (.cells #[.int .i64 c.kind, .int .i64 c.a, .int .i64 c.b, .slice A1 n1 p1, .slice A2 n2 p2] 31)).heap.size = w.heap.size + 1 := by simp
  have hmade := World.ownsRow_made (base := w.heap.size) (e := 60) (size := 3) (w.alloc (.cells #[.int .i64 c.kind, .int .i64 c.a, .int .i64 c.b, .slice A1 n1 p1, .slice A2 n2 p2] 31)) #[] 0 (by simp) (Nat.zero_le _) rfl
  rw [hsa] at hmade
  have HMade := hid hmade
  have hww := hw1.alloc (by simp) (.cells #[] 60)
  have HBx := hid ((heap_alloc_old (w.alloc (.cells #[.int .i64 c.kind, .int .i64 c.a, .int .i64 c.b, .slice A1 n1 p1, .slice A2 n2 p2] 31)) (.cells #[] 60) (r := w.heap.size) (by simp)).trans hbx)
  have HNews := hid (fun ad e j u hj => keepc hww (hc ad e j u hj))
  have HSz := hid hww.size
  have HWW := hid hww
  have HLn := hid hl
  have HLen := hid (show (flatV c.vals).length = n2 * 3 by rw [flatV_length, hl])
  have HOne := hid (flatV_one (vs := c.vals))
  have HA2 := hid hA
  clear hr hl hm hA hc hi hbx hw1 hsa hmade hww h
  go_enter Try.func56, Try.ntmps56
  go_upto_region 2 with (at_builtin; refine wpList_copy _ rfl _ _ 29 rfl w.heap.size 60 i0 (.agg #[.int .i64 0, .int .i64 0, .string ByteArray.empty]) 3 32 Try.underlying29 HI.out hz0 hz1 hz2 rfl (by decide) (w.heap.size + 1) rfl HMade.out A2 n2 p2 (flatV c.vals) rfl HLen.out HNews.out HA2.out HOne.out (by unfold maxLen; omega) (by omega) HSz.out ?_; intro g4 cp4 w4 hown hgrow hat hlt4; have HB4 := hid (HWW.out.grown hgrow HSz.out (fun y hy => by simp at hy; omega)); have HOwn4 := hid hown; have hbx4 := (hgrow.block w.heap.size (by simp; omega) (by simp)).trans HBx.out; have HBx4 := hid hbx4; have e0 := cell_of_row w4 w.heap.size 0 _ _ _ HBx4.out; have e1 := cell_of_row w4 w.heap.size 1 _ _ _ HBx4.out; have e2 := cell_of_row w4 w.heap.size 2 _ _ _ HBx4.out; simp only [List.getElem?_toArray, List.getElem?_cons_zero, List.getElem?_cons_succ] at e0 e1 e2; have HG0 := hid (show w.heap.size + 1 ≤ g4 by rcases hat with e | e; omega; simp at e; omega); clear hown hgrow hat hlt4 hbx4)
  have HG4 := hid (show w.heap.size + 1 ≤ g4 from HG0.out)
  go_wp2_with (at_builtin; refine wpList_append_lies _ rfl _ _ 29 rfl w.heap.size 60 i0 (.agg #[.int .i64 0, .int .i64 0, .string ByteArray.empty]) 3 32 Try.underlying29 HI.out hz0 hz1 hz2 rfl (by decide) (.slice (some ⟨g4, 0, none⟩) n2 cp4) n2 (flatV c.vals) rfl (HOwn4.out.alloc (.cells #[.int .i64 5, .int .i64 c.a, .string ByteArray.empty] 60)) ⟨w4.heap.size, 0, none⟩ 1 1 [.int .i64 5, .int .i64 c.a, .string ByteArray.empty] rfl rfl (World.news_of_block (heap_alloc_new w4 (.cells #[.int .i64 5, .int .i64 c.a, .string ByteArray.empty] 60))) (by simp [Value.oneCell']) (by decide) (by unfold maxLen; omega) (by omega) (by have := HB4.out.size; simp; omega) _ rfl ?_; intro g6 cp6 w6 hown hgrow hat hlt6; have hb5 := HB4.out.trans (((Below.refl w4.heap.size w4).alloc (Nat.le_refl _) (.cells #[.int .i64 5, .int .i64 c.a, .string ByteArray.empty] 60)).mono HB4.out.size); have HB6 := hid (hb5.grown hgrow hb5.size (fun y hy => by simp [Value.ownBlock] at hy; have := (HOwn4.out.lt g4 rfl).1; omega)); have HOwn6 := hid hown; have hbx6 := (hgrow.block w.heap.size (by have := (Array.getElem?_eq_some_iff.1 HBx4.out).1; simp; omega) (by have := (HOwn4.out.lt g4 rfl).1; simp [Value.ownBlock]; intro e; exact absurd e (by have := HG4.out; omega))).trans ((heap_alloc_old w4 _ (Array.getElem?_eq_some_iff.1 HBx4.out).1).trans HBx4.out); have f0 := cell_of_row w6 w.heap.size 0 _ _ _ hbx6; have f1 := cell_of_row w6 w.heap.size 1 _ _ _ hbx6; have f2 := cell_of_row w6 w.heap.size 2 _ _ _ hbx6; simp only [List.getElem?_toArray, List.getElem?_cons_zero, List.getElem?_cons_succ] at f0 f1 f2; clear hown hgrow hat hlt6 hb5 hbx6)
  go_wp2_with fail
  go_ret
  have e : leadVs c = c.vals ++ [⟨5, c.a, ByteArray.empty⟩] := by unfold leadVs; simp [HK.out]
  unfold OutV
  rw [e, List.length_append, flatV_append, HLn.out]
  exact ⟨g6, cp6, rfl, HOwn6.out, HB6.out⟩
set_option maxHeartbeats 3200000 in
set_option maxRecDepth 100000 in
theorem rleads3 {B : Nat} {w : World} {c : CD} {A1 A2 : Option Addr} {n1 p1 n2 p2 : Nat} (hr : Reads B w c (.slice A1 n1 p1) (.slice A2 n2 p2)) (hn : n2 ≤ 100000) (h : c.kind = 3) :
    Calls Try.prog 56 #[.agg #[.int .i64 c.kind, .int .i64 c.a, .int .i64 c.b, .slice A1 n1 p1, .slice A2 n2 p2]] w fun e w' => ∃ g cap, e = .returned (.slice (some ⟨g, 0, none⟩) (leadVs c).length cap) ∧ OutV w' w.heap.size (.slice (some ⟨g, 0, none⟩) (leadVs c).length cap) (leadVs c) ∧ Below w.heap.size w w' := by
  obtain ⟨hl, hm, hA, hc⟩ := hr.v.news
  have k1 : (c.kind == (1 : Int)) = false := by rw [beq_eq_false_iff_ne]; omega
  have k4 : (c.kind == (4 : Int)) = false := by rw [beq_eq_false_iff_ne]; omega
  have k3 : (c.kind == (3 : Int)) = true := by rw [beq_iff_eq]; omega
  have HK := hid h
  obtain ⟨i0, hi, hz0, hz1, hz2⟩ := info_parts infoVals
  have HI := hid hi
  have hbx := heap_alloc_new w (.cells #[.int .i64 c.kind, .int .i64 c.a, .int .i64 c.b, .slice A1 n1 p1, .slice A2 n2 p2] 31)
  have hw1 := (Below.refl w.heap.size w).alloc (Nat.le_refl _) (.cells #[.int .i64 c.kind, .int .i64 c.a, .int .i64 c.b, .slice A1 n1 p1, .slice A2 n2 p2] 31)
  have hsa : (w.alloc (.cells #[.int .i64 c.kind, .int .i64 c.a, .int .i64 c.b, .slice A1 n1 p1, .slice A2 n2 p2] 31)).heap.size = w.heap.size + 1 := by simp
  have hmade := World.ownsRow_made (base := w.heap.size) (e := 60) (size := 3) (w.alloc (.cells #[.int .i64 c.kind, .int .i64 c.a, .int .i64 c.b, .slice A1 n1 p1, .slice A2 n2 p2] 31)) #[] 0 (by simp) (Nat.zero_le _) rfl
  rw [hsa] at hmade
  have HMade := hid hmade
  have hww := hw1.alloc (by simp) (.cells #[] 60)
  have HBx := hid ((heap_alloc_old (w.alloc (.cells #[.int .i64 c.kind, .int .i64 c.a, .int .i64 c.b, .slice A1 n1 p1, .slice A2 n2 p2] 31)) (.cells #[] 60) (r := w.heap.size) (by simp)).trans hbx)
  have HNews := hid (fun ad e j u hj => keepc hww (hc ad e j u hj))
  have HSz := hid hww.size
  have HWW := hid hww
  have HLn := hid hl
  have HLen := hid (show (flatV c.vals).length = n2 * 3 by rw [flatV_length, hl])
  have HOne := hid (flatV_one (vs := c.vals))
  have HA2 := hid hA
  clear hr hl hm hA hc hi hbx hw1 hsa hmade hww h
  go_enter Try.func56, Try.ntmps56
  go_upto_region 2 with (at_builtin; refine wpList_copy _ rfl _ _ 29 rfl w.heap.size 60 i0 (.agg #[.int .i64 0, .int .i64 0, .string ByteArray.empty]) 3 32 Try.underlying29 HI.out hz0 hz1 hz2 rfl (by decide) (w.heap.size + 1) rfl HMade.out A2 n2 p2 (flatV c.vals) rfl HLen.out HNews.out HA2.out HOne.out (by unfold maxLen; omega) (by omega) HSz.out ?_; intro g4 cp4 w4 hown hgrow hat hlt4; have HB4 := hid (HWW.out.grown hgrow HSz.out (fun y hy => by simp at hy; omega)); have HOwn4 := hid hown; have hbx4 := (hgrow.block w.heap.size (by simp; omega) (by simp)).trans HBx.out; have HBx4 := hid hbx4; have e0 := cell_of_row w4 w.heap.size 0 _ _ _ HBx4.out; have e1 := cell_of_row w4 w.heap.size 1 _ _ _ HBx4.out; have e2 := cell_of_row w4 w.heap.size 2 _ _ _ HBx4.out; simp only [List.getElem?_toArray, List.getElem?_cons_zero, List.getElem?_cons_succ] at e0 e1 e2; have HG0 := hid (show w.heap.size + 1 ≤ g4 by rcases hat with e | e; omega; simp at e; omega); clear hown hgrow hat hlt4 hbx4)
  have HG4 := hid (show w.heap.size + 1 ≤ g4 from HG0.out)
  go_wp2_with (at_builtin; refine wpList_append_lies _ rfl _ _ 29 rfl w.heap.size 60 i0 (.agg #[.int .i64 0, .int .i64 0, .string ByteArray.empty]) 3 32 Try.underlying29 HI.out hz0 hz1 hz2 rfl (by decide) (.slice (some ⟨g4, 0, none⟩) n2 cp4) n2 (flatV c.vals) rfl (HOwn4.out.alloc (.cells #[.int .i64 5, .int .i64 c.b, .string ByteArray.empty] 60)) ⟨w4.heap.size, 0, none⟩ 1 1 [.int .i64 5, .int .i64 c.b, .string ByteArray.empty] rfl rfl (World.news_of_block (heap_alloc_new w4 (.cells #[.int .i64 5, .int .i64 c.b, .string ByteArray.empty] 60))) (by simp [Value.oneCell']) (by decide) (by unfold maxLen; omega) (by omega) (by have := HB4.out.size; simp; omega) _ rfl ?_; intro g6 cp6 w6 hown hgrow hat hlt6; have hb5 := HB4.out.trans (((Below.refl w4.heap.size w4).alloc (Nat.le_refl _) (.cells #[.int .i64 5, .int .i64 c.b, .string ByteArray.empty] 60)).mono HB4.out.size); have HB6 := hid (hb5.grown hgrow hb5.size (fun y hy => by simp [Value.ownBlock] at hy; have := (HOwn4.out.lt g4 rfl).1; omega)); have HOwn6 := hid hown; have hbx6 := (hgrow.block w.heap.size (by have := (Array.getElem?_eq_some_iff.1 HBx4.out).1; simp; omega) (by have := (HOwn4.out.lt g4 rfl).1; simp [Value.ownBlock]; intro e; exact absurd e (by have := HG4.out; omega))).trans ((heap_alloc_old w4 _ (Array.getElem?_eq_some_iff.1 HBx4.out).1).trans HBx4.out); have f0 := cell_of_row w6 w.heap.size 0 _ _ _ hbx6; have f1 := cell_of_row w6 w.heap.size 1 _ _ _ hbx6; have f2 := cell_of_row w6 w.heap.size 2 _ _ _ hbx6; simp only [List.getElem?_toArray, List.getElem?_cons_zero, List.getElem?_cons_succ] at f0 f1 f2; clear hown hgrow hat hlt6 hb5 hbx6)
  go_wp2_with fail
  go_ret
  have e : leadVs c = c.vals ++ [⟨5, c.b, ByteArray.empty⟩] := by unfold leadVs; simp [HK.out]
  unfold OutV
  rw [e, List.length_append, flatV_append, HLn.out]
  exact ⟨g6, cp6, rfl, HOwn6.out, HB6.out⟩
set_option maxHeartbeats 3200000 in
set_option maxRecDepth 100000 in
theorem rleads0 {B : Nat} {w : World} {c : CD} {A1 A2 : Option Addr} {n1 p1 n2 p2 : Nat} (hr : Reads B w c (.slice A1 n1 p1) (.slice A2 n2 p2)) (hn : n2 ≤ 100000) (h : c.kind ≠ 1 ∧ c.kind ≠ 4 ∧ c.kind ≠ 3) :
    Calls Try.prog 56 #[.agg #[.int .i64 c.kind, .int .i64 c.a, .int .i64 c.b, .slice A1 n1 p1, .slice A2 n2 p2]] w fun e w' => ∃ g cap, e = .returned (.slice (some ⟨g, 0, none⟩) (leadVs c).length cap) ∧ OutV w' w.heap.size (.slice (some ⟨g, 0, none⟩) (leadVs c).length cap) (leadVs c) ∧ Below w.heap.size w w' := by
  obtain ⟨hl, hm, hA, hc⟩ := hr.v.news
  have k1 : (c.kind == (1 : Int)) = false := by rw [beq_eq_false_iff_ne]; omega
  have k4 : (c.kind == (4 : Int)) = false := by rw [beq_eq_false_iff_ne]; omega
  have k3 : (c.kind == (3 : Int)) = false := by rw [beq_eq_false_iff_ne]; omega
  have HK := hid h
  obtain ⟨i0, hi, hz0, hz1, hz2⟩ := info_parts infoVals
  have HI := hid hi
  have hbx := heap_alloc_new w (.cells #[.int .i64 c.kind, .int .i64 c.a, .int .i64 c.b, .slice A1 n1 p1, .slice A2 n2 p2] 31)
  have hw1 := (Below.refl w.heap.size w).alloc (Nat.le_refl _) (.cells #[.int .i64 c.kind, .int .i64 c.a, .int .i64 c.b, .slice A1 n1 p1, .slice A2 n2 p2] 31)
  have hsa : (w.alloc (.cells #[.int .i64 c.kind, .int .i64 c.a, .int .i64 c.b, .slice A1 n1 p1, .slice A2 n2 p2] 31)).heap.size = w.heap.size + 1 := by simp
  have hmade := World.ownsRow_made (base := w.heap.size) (e := 60) (size := 3) (w.alloc (.cells #[.int .i64 c.kind, .int .i64 c.a, .int .i64 c.b, .slice A1 n1 p1, .slice A2 n2 p2] 31)) #[] 0 (by simp) (Nat.zero_le _) rfl
  rw [hsa] at hmade
  have HMade := hid hmade
  have hww := hw1.alloc (by simp) (.cells #[] 60)
  have HBx := hid ((heap_alloc_old (w.alloc (.cells #[.int .i64 c.kind, .int .i64 c.a, .int .i64 c.b, .slice A1 n1 p1, .slice A2 n2 p2] 31)) (.cells #[] 60) (r := w.heap.size) (by simp)).trans hbx)
  have HNews := hid (fun ad e j u hj => keepc hww (hc ad e j u hj))
  have HSz := hid hww.size
  have HWW := hid hww
  have HLn := hid hl
  have HLen := hid (show (flatV c.vals).length = n2 * 3 by rw [flatV_length, hl])
  have HOne := hid (flatV_one (vs := c.vals))
  have HA2 := hid hA
  clear hr hl hm hA hc hi hbx hw1 hsa hmade hww h
  go_enter Try.func56, Try.ntmps56
  go_upto_region 2 with (at_builtin; refine wpList_copy _ rfl _ _ 29 rfl w.heap.size 60 i0 (.agg #[.int .i64 0, .int .i64 0, .string ByteArray.empty]) 3 32 Try.underlying29 HI.out hz0 hz1 hz2 rfl (by decide) (w.heap.size + 1) rfl HMade.out A2 n2 p2 (flatV c.vals) rfl HLen.out HNews.out HA2.out HOne.out (by unfold maxLen; omega) (by omega) HSz.out ?_; intro g4 cp4 w4 hown hgrow hat hlt4; have HB4 := hid (HWW.out.grown hgrow HSz.out (fun y hy => by simp at hy; omega)); have HOwn4 := hid hown; have hbx4 := (hgrow.block w.heap.size (by simp; omega) (by simp)).trans HBx.out; have HBx4 := hid hbx4; have e0 := cell_of_row w4 w.heap.size 0 _ _ _ HBx4.out; have e1 := cell_of_row w4 w.heap.size 1 _ _ _ HBx4.out; have e2 := cell_of_row w4 w.heap.size 2 _ _ _ HBx4.out; simp only [List.getElem?_toArray, List.getElem?_cons_zero, List.getElem?_cons_succ] at e0 e1 e2; have HG0 := hid (show w.heap.size + 1 ≤ g4 by rcases hat with e | e; omega; simp at e; omega); clear hown hgrow hat hlt4 hbx4)
  have HG4 := hid (show w.heap.size + 1 ≤ g4 from HG0.out)
  go_wp2_with fail
  go_ret
  have e : leadVs c = c.vals := by unfold leadVs; simp [HK.out.1, HK.out.2.1, HK.out.2.2]
  unfold OutV
  rw [e, HLn.out]
  exact ⟨g4, cp4, rfl, HOwn4.out, HB4.out⟩
theorem rleads_c {B : Nat} {w : World} {c : CD} {A1 A2 : Option Addr} {n1 p1 n2 p2 : Nat} (hr : Reads B w c (.slice A1 n1 p1) (.slice A2 n2 p2)) (hn : n2 ≤ 100000) :
    Calls Try.prog 56 #[.agg #[.int .i64 c.kind, .int .i64 c.a, .int .i64 c.b, .slice A1 n1 p1, .slice A2 n2 p2]] w fun e w' => ∃ g cap, e = .returned (.slice (some ⟨g, 0, none⟩) (leadVs c).length cap) ∧ OutV w' w.heap.size (.slice (some ⟨g, 0, none⟩) (leadVs c).length cap) (leadVs c) ∧ Below w.heap.size w w' := by
  by_cases h1 : c.kind = 1
  · exact rleads1 hr hn h1
  · by_cases h4 : c.kind = 4
    · exact rleads4 hr hn h4
    · by_cases h3 : c.kind = 3
      · exact rleads3 hr hn h3
      · exact rleads0 hr hn ⟨h1, h4, h3⟩
end Go.Proofs.Ytljbdmmidajmdaa.Pg
