/- another. -/
import Derived.Test.YtdgpblhmfkpblaaSt14
namespace Go.Proofs.Ytdgpblhmfkpblaa.Pg
open Go.RowKit

section
variable {B B' : Bd} {w w' : World} {G G' : SG} {P P' : PS} {D D' : FD}
set_option maxHeartbeats 800000 in
set_option maxRecDepth 100000 in
theorem another_no (w : World) (a : Value) (p : Int) (v : VD) (hv : v.kind ≠ 5 ∨ v.n = p) : Calls Try.prog 69 #[a, .int .i64 p, v.agg] w fun e w' => e = .returned (.bool false) ∧ Below w.heap.size w w' := by
  have hb := (Below.refl w.heap.size w).alloc (Nat.le_refl _) (.cells #[.int .i64 v.kind, .int .i64 v.n, .string v.s] 33)
  obtain ⟨y0, y1, y2⟩ := val_cells w (.int .i64 v.kind) (.int .i64 v.n) (.string v.s)
  have HB := hid hb
  clear hb
  unfold VD.agg
  by_cases h5 : v.kind = 5
  · have hn : v.n = p := hv.resolve_left (fun h => h h5)
    have e1 : (v.kind != 5) = false := by rw [h5]; rfl
    have e2 : (v.n == p) = true := by rw [hn]; simp
    clear hv h5 hn
    go_enter Try.func69, Try.ntmps69
    go_wp2_with fail
    go_ret
    exact ⟨rfl, HB.out⟩
  · have e1 : (v.kind != 5) = true := by simpa using h5
    clear hv h5
    go_enter Try.func69, Try.ntmps69
    go_wp2_with fail
    go_ret
    exact ⟨rfl, HB.out⟩
set_option maxHeartbeats 3200000 in
set_option maxRecDepth 100000 in
theorem another_yes (h : St1 B w D G P) (p : Int) (v : VD) (h5 : v.kind = 5) (hp : v.n ≠ p) (hp1 : 1 ≤ v.n) (hp2 : v.n ≤ 1000000) {c : CD} (hc : P.cells[(v.n - 1).toNat]? = some c) (hk : c.kind = 5) :
    Calls Try.prog 69 #[ptr G.at_, .int .i64 p, v.agg] w fun e w' => e = .returned (.bool true) ∧ Below w.heap.size w w' := by
  have hb := (Below.refl w.heap.size w).alloc (Nat.le_refl _) (.cells #[.int .i64 v.kind, .int .i64 v.n, .string v.s] 33)
  obtain ⟨y0, y1, y2⟩ := val_cells w (.int .i64 v.kind) (.int .i64 v.n) (.string v.s)
  have e1 : (v.kind != 5) = false := by rw [h5]; rfl
  have e2 : (v.n == p) = false := by simpa using hp
  have H := hid (h.below hb)
  have HB := hid hb
  have HK := hid hk
  clear hb h5 hp hk
  unfold VD.agg ptr
  go_enter Try.func69, Try.ntmps69
  go_upto_region 3 with fail
  have hs0 : w.heap.size < (w.alloc (.cells #[.int .i64 v.kind, .int .i64 v.n, .string v.s] 33)).heap.size := by go_size
  generalize (w.alloc (.cells #[.int .i64 v.kind, .int .i64 v.n, .string v.s] 33)) = W at H HB y0 y1 y2 hs0 ⊢
  have c0 := H.out.ok.c (k := 0) (u := ptr G.hp) rfl
  unfold ptr at c0
  have hat := (H.out.ok.foot_lt (.inl rfl)).1
  have hbz := (Below.refl W.heap.size W).alloc (Nat.le_refl _) (.cells #[.int .i64 0, .int .i64 0, .int .i64 0, .slice none 0 0, .slice none 0 0] 47)
  have HZ := hid hbz
  clear hbz
  go_region_law (refine step_call rfl (f := 32) rfl Try.func32 (by kernel_rfl) rfl #[.pointer (some ⟨G.hp, 0, none⟩), .int .i64 v.n] (by simp only [List.map_toArray, List.map_cons, List.map_nil]; rfl) ?_; (first | refine ((H.out.below (Below.refl _ _).drew).h.load H.out.le H.out.hp H.out.cells hp1 hp2 hc).mono ?_ | refine ((H.out.below HZ.out.drew).h.load (Nat.le_trans H.out.le HZ.out.size) H.out.hp H.out.cells hp1 hp2 hc).mono ?_); rintro e w2 ⟨A1, n1, p1, A2, n2, p2, rfl, hb2, hr2⟩; refine ⟨_, rfl, ?_⟩; (first | (have q := (hb2.block W.heap.size (by go_size)).trans (show (W.alloc (.cells #[.int .i64 0, .int .i64 0, .int .i64 0, .slice none 0 0, .slice none 0 0] 47)).drew.heap[W.heap.size]? = _ from heap_alloc_new W (.cells #[.int .i64 0, .int .i64 0, .int .i64 0, .slice none 0 0, .slice none 0 0] 47)); obtain ⟨q0, q1, q2, q3, q4, g0, g1, g2, g3, g4⟩ := zero_cell q; have HB2 := hid (HZ.out.drew.trans (hb2.mono (by go_size))); clear q) | (have HB2 := hid (below_drew hb2))); clear hb2 hr2)
  all_goals
    have e3 : (c.kind == 5) = true := by rw [HK.out]; rfl
    go_wp2
    go_ret
    exact ⟨rfl, HB.out.trans (Below.mono (by first | exact HB2.out.alloc HB2.out.size _ | exact ((((HB2.out.setCell (Nat.le_refl _) _).setCell (Nat.le_refl _) _).setCell (Nat.le_refl _) _).setCell (Nat.le_refl _) _).setCell (Nat.le_refl _) _) (Nat.le_of_lt hs0))⟩

set_option maxHeartbeats 800000 in
set_option maxRecDepth 100000 in
theorem settle_nil (w : World) (p : Int) (k : Bool) (v : VD) : Calls Try.prog 31 #[.pointer none, .int .i64 p, .bool k, v.agg] w fun e w' => e = .returned (.tuple #[]) ∧ Below w.heap.size w w' := by
  have HB := hid ((Below.refl w.heap.size w).alloc (Nat.le_refl _) (.cells #[.int .i64 v.kind, .int .i64 v.n, .string v.s] 33))
  unfold VD.agg
  go_enter Try.func31, Try.ntmps31
  go_wp2_with fail
  exact bodyPost_ret (results_none rfl _ _ _) rfl ⟨rfl, HB.out⟩
set_option maxHeartbeats 800000 in
set_option maxRecDepth 100000 in
theorem settle_gone (h : St1 B w D G P) {p : Int} (hp1 : 1 ≤ p) (hp2 : p ≤ 1000000) {c : CD} (hc : P.cells[(p - 1).toNat]? = some c) (ha : c.a ≠ 0) (k : Bool) (v : VD) :
    Calls Try.prog 31 #[ptr G.at_, .int .i64 p, .bool k, v.agg] w fun e w' => e = .returned (.tuple #[]) ∧ Next1 B w D G w' P := by
  have hb := (Below.refl w.heap.size w).alloc (Nat.le_refl _) (.cells #[.int .i64 v.kind, .int .i64 v.n, .string v.s] 33)
  have H := hid (h.below hb)
  have HB := hid hb
  have e1 : (c.a != 0) = true := by simpa using ha
  clear hb ha
  unfold VD.agg ptr
  go_enter Try.func31, Try.ntmps31
  go_upto_region 1 with fail
  have hs0 : w.heap.size < (w.alloc (.cells #[.int .i64 v.kind, .int .i64 v.n, .string v.s] 33)).heap.size := by go_size
  generalize (w.alloc (.cells #[.int .i64 v.kind, .int .i64 v.n, .string v.s] 33)) = W at H HB hs0 ⊢
  have c0 := H.out.ok.c (k := 0) (u := ptr G.hp) rfl
  unfold ptr at c0
  go_wp2_with fail
  refine (H.out.h.load H.out.le H.out.hp H.out.cells hp1 hp2 hc).mono ?_
  rintro e w1 ⟨A1, n1, p1, A2, n2, p2, rfl, hb1, hr1⟩
  have hb2 := hb1.trans (((Below.refl w1.heap.size w1).alloc (Nat.le_refl _) (.cells #[.int .i64 c.kind, .int .i64 c.a, .int .i64 c.b, .slice A1 n1 p1, .slice A2 n2 p2] 47)).mono hb1.size)
  have HB2 := hid (Next1.pre HB.out (Next1.post hb2 (Next1.refl H.out)))
  clear hb1 hr1 hb2
  go_wp2_with fail
  exact bodyPost_ret (results_none rfl _ _ _) rfl ⟨rfl, HB2.out⟩

/-- A promise that is kept by another one waits for that. -/
theorem settle_adopt (h : St1 B w D G P) {p : Int} (hp1 : 1 ≤ p) (hp2 : p ≤ 1000000) {c : CD} (hc : P.cells[(p - 1).toNat]? = some c) (ha : c.a = 0) (v : VD) (h5 : v.kind = 5) (hp : v.n ≠ p) (hq1 : 1 ≤ v.n) (hq2 : v.n ≤ 1000000) {d : CD} (hd : P.cells[(v.n - 1).toNat]? = some d) (hk : d.kind = 5)
    {Q : PS → Prop} (hW : ∀ w1, St1 B w1 D G P → Calls Try.prog 35 #[ptr G.at_, .int .i64 v.n, (VD.mk 6 p ⟨#[114, 101, 115, 111, 108, 118, 101]⟩).agg, (VD.mk 6 p ⟨#[114, 101, 106, 101, 99, 116]⟩).agg, .int .i64 0] w1 fun e w' => e = .returned (.tuple #[]) ∧ ∃ P', Q P' ∧ Next1 B w1 D G w' P') :
    Calls Try.prog 31 #[ptr G.at_, .int .i64 p, .bool true, v.agg] w fun e w' => e = .returned (.tuple #[]) ∧ ∃ P', Q P' ∧ Next1 B w D G w' P' := by
  have HW := hid hW
  have hb := (Below.refl w.heap.size w).alloc (Nat.le_refl _) (.cells #[.int .i64 v.kind, .int .i64 v.n, .string v.s] 33)
  have H := hid (h.below hb)
  have HB := hid hb
  have r0 := heap_alloc_new w (.cells #[.int .i64 v.kind, .int .i64 v.n, .string v.s] 33)
  have e1 : (c.a != 0) = false := by rw [ha]; rfl
  have HK := hid hk
  have H5 := hid h5
  have HPN := hid hp
  clear hb ha hW hk h5 hp
  unfold VD.agg ptr
  go_enter Try.func31, Try.ntmps31
  go_upto_region 1 with fail
  have hs0 : w.heap.size < (w.alloc (.cells #[.int .i64 v.kind, .int .i64 v.n, .string v.s] 33)).heap.size := by go_size
  generalize (w.alloc (.cells #[.int .i64 v.kind, .int .i64 v.n, .string v.s] 33)) = W at H HB hs0 r0 ⊢
  have c0 := H.out.ok.c (k := 0) (u := ptr G.hp) rfl
  unfold ptr at c0
  go_wp2_with fail
  refine (H.out.h.load H.out.le H.out.hp H.out.cells hp1 hp2 hc).mono ?_
  rintro e w1 ⟨A1, n1, p1, A2, n2, p2, rfl, hb1, hr1⟩
  have hb2 := hb1.trans (((Below.refl w1.heap.size w1).alloc (Nat.le_refl _) (.cells #[.int .i64 c.kind, .int .i64 c.a, .int .i64 c.b, .slice A1 n1 p1, .slice A2 n2 p2] 47)).mono hb1.size)
  have rC := heap_alloc_new w1 (.cells #[.int .i64 c.kind, .int .i64 c.a, .int .i64 c.b, .slice A1 n1 p1, .slice A2 n2 p2] 47)
  have HB2 := hid hb2
  have r0' := (hb2.block _ hs0).trans r0
  go_upto_region 3 with fail
  generalize (w1.alloc (.cells #[.int .i64 c.kind, .int .i64 c.a, .int .i64 c.b, .slice A1 n1 p1, .slice A2 n2 p2] 47)) = W2 at HB2 rC r0' ⊢
  have H2 := hid (H.out.below HB2.out)
  have y0 := (cell_of_row _ _ 0 _ _ _ rC).trans (b := some (Value.int .i64 c.kind)) rfl
  have y1 := (cell_of_row _ _ 1 _ _ _ rC).trans (b := some (Value.int .i64 c.a)) rfl
  have y2 := (cell_of_row _ _ 2 _ _ _ rC).trans (b := some (Value.int .i64 c.b)) rfl
  have y3 := (cell_of_row _ _ 3 _ _ _ rC).trans (b := some (Value.slice A1 n1 p1)) rfl
  have y4 := (cell_of_row _ _ 4 _ _ _ rC).trans (b := some (Value.slice A2 n2 p2)) rfl
  have x0 := (cell_of_row _ _ 0 _ _ _ r0').trans (b := some (Value.int .i64 v.kind)) rfl
  have x1 := (cell_of_row _ _ 1 _ _ _ r0').trans (b := some (Value.int .i64 v.n)) rfl
  have x2 := (cell_of_row _ _ 2 _ _ _ r0').trans (b := some (Value.string v.s)) rfl
  clear hb1 hr1 hb2 r0 c0 rC
  go_wp2_with fail
  refine (another_yes H2.out p v H5.out HPN.out hq1 hq2 hd HK.out).mono ?_
  rintro e w3 ⟨rfl, hb3⟩
  have l0 := Nat.lt_of_lt_of_le hs0 HB2.out.size
  have x0' := carry hb3 l0 x0
  have x1' := carry hb3 l0 x1
  have x2' := carry hb3 l0 x2
  have H3 := hid (H2.out.below hb3)
  have HB3 := hid hb3
  clear hb3 x0 x1 x2 y0 y1 y2 y3 y4 r0'
  go_wp2_with fail
  refine (HW.out _ H3.out).mono ?_
  rintro e w4 ⟨rfl, P', hQ, hN⟩
  have HQ := hid hQ
  have HN := hid (Next1.pre HB.out (Next1.pre HB2.out (Next1.pre HB3.out hN)))
  clear hQ hN
  go_wp2_with fail
  exact bodyPost_ret (results_none rfl _ _ _) rfl ⟨rfl, P', HQ.out, HN.out⟩
end
end Go.Proofs.Ytdgpblhmfkpblaa.Pg
