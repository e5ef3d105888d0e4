/- Contracts: a row that is cloned reads as it did; a cell in memory of its own (own). -/
import Derived.Test.YtdgpblhmfkpblaaPg1
namespace Go.Proofs.Ytdgpblhmfkpblaa.Pg
open Go.RowKit

theorem flat_get {sz : Nat} : ∀ (rows : List (List Value)), (∀ c ∈ rows, c.length = sz) → ∀ j c i u, rows[j]? = some c → c[i]? = some u → rows.flatten[j * sz + i]? = some u
  | [], _, j, c, i, u, h, _ => by simp at h
  | r :: rows, hl, 0, c, i, u, h, hu => by
    simp at h; subst h
    have := (List.getElem?_eq_some_iff.1 hu).1
    rw [List.flatten_cons, List.getElem?_append_left (by omega)]; simpa using hu
  | r :: rows, hl, j + 1, c, i, u, h, hu => by
    have hr := hl r (by simp)
    rw [List.flatten_cons, List.getElem?_append_right (by rw [hr, Nat.add_mul]; omega), hr, show (j + 1) * sz + i - sz = j * sz + i by rw [Nat.add_mul]; omega]
    exact flat_get rows (fun c hc => hl c (by simp [hc])) j c i u (by simpa using h) hu
theorem flat_length {sz : Nat} : ∀ (rows : List (List Value)), (∀ c ∈ rows, c.length = sz) → rows.flatten.length = rows.length * sz
  | [], _ => by simp
  | r :: rows, hl => by
    rw [List.flatten_cons, List.length_append, hl r (by simp), flat_length rows (fun c hc => hl c (by simp [hc])), List.length_cons, Nat.add_mul]; omega
theorem flat_inv {sz : Nat} : ∀ (rows : List (List Value)), (∀ c ∈ rows, c.length = sz) → ∀ k u, rows.flatten[k]? = some u → ∃ j c i, k = j * sz + i ∧ rows[j]? = some c ∧ c[i]? = some u
  | [], _, k, u, h => by simp at h
  | r :: rows, hl, k, u, h => by
    have hr := hl r (by simp)
    rw [List.flatten_cons] at h
    by_cases hk : k < sz
    · rw [List.getElem?_append_left (by omega)] at h
      exact ⟨0, r, k, by simp, by simp, h⟩
    · rw [List.getElem?_append_right (by omega)] at h
      obtain ⟨j, c, i, e, hj, hi⟩ := flat_inv rows (fun c hc => hl c (by simp [hc])) _ u h
      exact ⟨j + 1, c, i, by rw [Nat.add_mul]; omega, by simpa using hj, hi⟩

/-- What the call owns reads as rows that stay. -/
theorem RowR.of_own {B : Bd} {w : World} {base T sz n : Nat} {v : Value} {rows : List (List Value)} (h : w.ownsRow base T sz v n rows.flatten) (hT : immT T = true) (hX : ∀ k, B.X k → k < base) (hr : ∀ c ∈ rows, c.length = sz) (hn : rows.length = n) : RowR B w sz v rows := by
  obtain ⟨_, h | ⟨g, cap, cur, e, hb, hg, hnc, hcm, hs, ht⟩⟩ := h
  · obtain ⟨rfl, rfl⟩ := h
    have : rows = [] := List.length_eq_zero_iff.1 hn
    subst this
    exact RowR.nil B w sz
  · refine ⟨_, n, cap, e, hn, hnc, hcm, fun h => (by cases h), fun _ => ⟨g, 0, rfl, ⟨(Array.getElem?_eq_some_iff.1 hg).1, .inr ⟨_, _, _, hg, hT, fun hx => by have := hX g hx; omega⟩⟩, fun j c hj => ⟨hr c (List.mem_of_getElem? hj), fun i u hu => ?_⟩⟩⟩
    have hf := flat_get rows hr j c i u hj hu
    have hlt := (List.getElem?_eq_some_iff.1 hf).1
    rw [flat_length rows hr, hn] at hlt
    rw [Nat.zero_add, cell_of_row w g _ cur T (0, 0) hg]
    rw [← ht, List.getElem?_take] at hf
    rw [if_pos hlt] at hf
    simpa using hf

theorem RowR.rows_flat {B : Bd} {w : World} {sz : Nat} {v : Value} {rows : List (List Value)} (h : RowR B w sz v rows) (hr : ∀ c ∈ rows, c.length = sz) :
    (v = .slice none 0 0 ∧ rows = []) ∨ ∃ ad cap, v = .slice (some ad) rows.length cap ∧ ∀ j u, rows.flatten[j]? = some u → w.cell? (ad.add j) = some u := by
  obtain ⟨A, n, cap, e, hn, hc, hm, hA, hp⟩ := h
  cases A with
  | none =>
    have := hA rfl
    subst this
    obtain rfl : n = 0 := by omega
    exact .inl ⟨e, List.length_eq_zero_iff.1 hn⟩
  | some ad =>
    refine .inr ⟨ad, cap, by rw [hn]; exact e, fun k u hk => ?_⟩
    obtain ⟨j, c, i, rfl, hj, hi⟩ := flat_inv rows hr k u hk
    have h0 : 0 < n := by have := (List.getElem?_eq_some_iff.1 hj).1; omega
    obtain ⟨b, o, e', _, hcell⟩ := hp h0
    cases e'
    have := (hcell j c hj).2 i u hi
    rw [show (⟨b, o, none⟩ : Addr).add (j * sz + i) = ⟨b, o + (j * sz + i), none⟩ by unfold Addr.add; split <;> simp_all]
    exact this

theorem cloneStr_row {B : Bd} {v : Value} {xs : List ByteArray} {w : World} (h : RowR B w 1 v (xs.map keyRow)) (hX : ∀ k, B.X k → k < w.heap.size) (hl : xs.length ≤ 1000000) :
    Calls Try.prog 118 #[v] w fun e w' => ∃ v', e = .returned v' ∧ Below w.heap.size w w' ∧ RowR B w' 1 v' (xs.map keyRow) := by
  have hr : ∀ c ∈ xs.map keyRow, c.length = 1 := fun c hc => by obtain ⟨x, _, rfl⟩ := List.mem_map.1 hc; rfl
  rcases h.rows_flat hr with ⟨rfl, e⟩ | ⟨ad, cap, rfl, hc⟩
  · refine (cloneStr_nil w).mono ?_
    rintro e' w' ⟨rfl, rfl⟩
    exact ⟨_, rfl, Below.refl _ _, h⟩
  · refine (cloneStr_some ad _ cap (xs.map keyRow).flatten w (flat_length _ hr) hc (fun u hu => ?_) (by rw [List.length_map]; omega)).mono ?_
    · obtain ⟨c, hc, hu⟩ := List.mem_flatten.1 hu
      obtain ⟨x, _, rfl⟩ := List.mem_map.1 hc
      simp [keyRow] at hu; subst hu; rfl
    · rintro e' w' ⟨v', rfl, hb, ho⟩
      exact ⟨v', rfl, hb, RowR.of_own ho (by decide) hX hr rfl⟩
theorem cloneVal_row {B : Bd} {v : Value} {xs : List VD} {w : World} (h : RowR B w 3 v (xs.map VD.row)) (hX : ∀ k, B.X k → k < w.heap.size) (hl : xs.length ≤ 1000000) :
    Calls Try.prog 119 #[v] w fun e w' => ∃ v', e = .returned v' ∧ Below w.heap.size w w' ∧ RowR B w' 3 v' (xs.map VD.row) ∧ w'.ownsRow w.heap.size 33 3 v' xs.length (xs.map VD.row).flatten := by
  have hr : ∀ c ∈ xs.map VD.row, c.length = 3 := fun c hc => by obtain ⟨x, _, rfl⟩ := List.mem_map.1 hc; rfl
  rcases h.rows_flat hr with ⟨rfl, e⟩ | ⟨ad, cap, rfl, hc⟩
  · refine (cloneVal_nil w).mono ?_
    rintro e' w' ⟨rfl, rfl⟩
    have e0 : xs = [] := by cases xs with | nil => rfl | cons a l => simp [VD.row] at e
    subst e0
    exact ⟨_, rfl, Below.refl _ _, h, World.ownsRow_nil _ _ _ _⟩
  · refine (cloneVal_some ad _ cap (xs.map VD.row).flatten w (flat_length _ hr) hc (fun u hu => ?_) (by rw [List.length_map]; omega)).mono ?_
    · obtain ⟨c, hc, hu⟩ := List.mem_flatten.1 hu
      obtain ⟨x, _, rfl⟩ := List.mem_map.1 hc
      simp [VD.row] at hu; rcases hu with rfl | rfl | rfl <;> rfl
    · rintro e' w' ⟨v', rfl, hb, ho⟩
      exact ⟨v', rfl, hb, RowR.of_own ho (by decide) hX hr rfl, by rw [List.length_map] at ho; exact ho⟩

theorem own_set {w : World} {base e size n k : Nat} {v : Value} {xs : List Value} (h : w.ownsRow base e size v n xs) (hk : k < base) (o : Nat) (u : Value) : (w.setCell ⟨k, o, none⟩ u).ownsRow base e size v n xs := by
  obtain ⟨h1, h2⟩ := h
  refine ⟨h1, ?_⟩
  rcases h2 with h2 | ⟨g, cap, cur, rfl, hg, hh, r⟩
  · exact .inl h2
  · exact .inr ⟨g, cap, cur, rfl, hg, (Below.heap_setCell _ _ _ _ (show g ≠ k by omega)).trans hh, r⟩
theorem own_low {w : World} {base base' e size n : Nat} {v : Value} {xs : List Value} (h : w.ownsRow base e size v n xs) (hb : base' ≤ base) : w.ownsRow base' e size v n xs := by
  obtain ⟨h1, h2⟩ := h
  refine ⟨h1, ?_⟩
  rcases h2 with h2 | ⟨g, cap, cur, rfl, hg, hh, r⟩
  · exact .inl h2
  · exact .inr ⟨g, cap, cur, rfl, Nat.le_trans hb hg, hh, r⟩
theorem bcell {W w1 : World} (hb : Below W.heap.size W w1) : (∀ b o, b < W.heap.size → w1.cell? ⟨b, o, none⟩ = W.cell? ⟨b, o, none⟩) ∧ (∀ b o, b < W.heap.size → w1.frozen? ⟨b, o, none⟩ = W.frozen? ⟨b, o, none⟩) :=
  ⟨fun b o h => hb.cell (p := ⟨b, o, none⟩) h, fun b o h => hb.frozen (p := ⟨b, o, none⟩) h⟩

theorem carry {W w1 : World} (hb : Below W.heap.size W w1) {b o : Nat} {v : Value} (h : b < W.heap.size) (hc : W.cell? ⟨b, o, none⟩ = some v) : w1.cell? ⟨b, o, none⟩ = some v := (hb.cell (p := ⟨b, o, none⟩) h).trans hc
theorem carryF {W w1 : World} (hb : Below W.heap.size W w1) {b o : Nat} (h : b < W.heap.size) (hc : W.frozen? ⟨b, o, none⟩ = false) : w1.frozen? ⟨b, o, none⟩ = false := (hb.frozen (p := ⟨b, o, none⟩) h).trans hc

theorem below_drew {W w1 : World} (hb : Below W.drew.heap.size W.drew w1) : Below W.heap.size W w1 := ⟨hb.os, hb.tape, hb.output, hb.size, hb.block⟩

set_option maxHeartbeats 800000 in
set_option maxRecDepth 100000 in
theorem own_callsO {B : Bd} {c : CD} {ks vl : Value} {w : World} (hB : B ≤ w.heap.size) (hX : ∀ k, B.X k → k < w.heap.size) (hk : RowR B w 1 ks (c.keys.map keyRow)) (hv : RowR B w 3 vl (c.vals.map VD.row)) (hkl : c.keys.length ≤ 1000000) (hvl : c.vals.length ≤ 1000000) :
    Calls Try.prog 109 #[.agg #[.int .i64 c.kind, .int .i64 c.a, .int .i64 c.b, ks, vl]] w fun e w' => ∃ ks' vl', e = .returned (.agg #[.int .i64 c.kind, .int .i64 c.a, .int .i64 c.b, ks', vl']) ∧ Below w.heap.size w w' ∧
      RowR B w' 1 ks' (c.keys.map keyRow) ∧ RowR B w' 3 vl' (c.vals.map VD.row) ∧ w'.ownsRow w.heap.size 33 3 vl' c.vals.length (c.vals.map VD.row).flatten := by
  have HK := hid hk
  have HV := hid hv
  have HX := hid hX
  clear hk hv hX
  go_enter Try.func109, Try.ntmps109
  go_wp2_with fail
  have hbW : Below w.heap.size w ((w.alloc (Obj.cells #[Value.int IntKind.i64 c.kind, Value.int IntKind.i64 c.a, Value.int IntKind.i64 c.b, ks, vl] 47)).alloc (Obj.cells #[Value.int IntKind.i64 0, Value.int IntKind.i64 0, Value.int IntKind.i64 0, Value.slice none 0 0, Value.slice none 0 0] 47)) :=
    ((Below.refl _ _).alloc (Nat.le_refl _) _).alloc (by simp) _
  have r1 : ((w.alloc (Obj.cells #[Value.int IntKind.i64 c.kind, Value.int IntKind.i64 c.a, Value.int IntKind.i64 c.b, ks, vl] 47)).alloc (Obj.cells #[Value.int IntKind.i64 0, Value.int IntKind.i64 0, Value.int IntKind.i64 0, Value.slice none 0 0, Value.slice none 0 0] 47)).heap[w.heap.size]? = some (.cells #[Value.int IntKind.i64 c.kind, Value.int IntKind.i64 c.a, Value.int IntKind.i64 c.b, ks, vl] 47 (0, 0)) := by
    rw [heap_alloc_old _ _ (by simp), heap_alloc_new]
  have r2 := heap_alloc_new (w.alloc (Obj.cells #[Value.int IntKind.i64 c.kind, Value.int IntKind.i64 c.a, Value.int IntKind.i64 c.b, ks, vl] 47)) (Obj.cells #[Value.int IntKind.i64 0, Value.int IntKind.i64 0, Value.int IntKind.i64 0, Value.slice none 0 0, Value.slice none 0 0] 47)
  rw [show (w.alloc (Obj.cells #[Value.int IntKind.i64 c.kind, Value.int IntKind.i64 c.a, Value.int IntKind.i64 c.b, ks, vl] 47)).heap.size = w.heap.size + 1 by simp] at r2
  have hz : w.heap.size + 1 < ((w.alloc (Obj.cells #[Value.int IntKind.i64 c.kind, Value.int IntKind.i64 c.a, Value.int IntKind.i64 c.b, ks, vl] 47)).alloc (Obj.cells #[Value.int IntKind.i64 0, Value.int IntKind.i64 0, Value.int IntKind.i64 0, Value.slice none 0 0, Value.slice none 0 0] 47)).heap.size := by simp
  generalize ((w.alloc (Obj.cells #[Value.int IntKind.i64 c.kind, Value.int IntKind.i64 c.a, Value.int IntKind.i64 c.b, ks, vl] 47)).alloc (Obj.cells #[Value.int IntKind.i64 0, Value.int IntKind.i64 0, Value.int IntKind.i64 0, Value.slice none 0 0, Value.slice none 0 0] 47)) = W at hbW r1 r2 hz ⊢
  have c0 := (cell_of_row W _ 0 _ _ _ r1).trans (b := some (Value.int IntKind.i64 c.kind)) rfl
  have c1 := (cell_of_row W _ 1 _ _ _ r1).trans (b := some (Value.int IntKind.i64 c.a)) rfl
  have c2 := (cell_of_row W _ 2 _ _ _ r1).trans (b := some (Value.int IntKind.i64 c.b)) rfl
  have c3 := (cell_of_row W _ 3 _ _ _ r1).trans (b := some ks) rfl
  have c4 := (cell_of_row W _ 4 _ _ _ r1).trans (b := some vl) rfl
  have f3 : W.frozen? ⟨w.heap.size, 3, none⟩ = false := by simp [World.frozen?, r1]
  have f4 : W.frozen? ⟨w.heap.size, 4, none⟩ = false := by simp [World.frozen?, r1]
  have hzz : w.heap.size < W.heap.size := by omega
  have R2 := hid r2
  have R1 := hid r1
  have HB := hid hbW
  clear r1 r2 hbW
  go_region_with (first
    | (go_at_call 118; refine (cloneStr_row (B := B) (xs := c.keys) (HK.out.move (Fr.of_below ?_)) (by intro k hk; exact Nat.lt_of_lt_of_le (HX.out k hk) (Nat.le_of_lt hzz)) hkl).mono ?_; (first | exact HB.out.drew); rintro e w1 ⟨ks', rfl, hb1', hr1⟩; obtain ⟨A1, n1, p1, e1, -⟩ := id hr1; subst e1; have hb1 := below_drew hb1'; clear hb1'; have d0 := carry hb1 hzz c0; have d1 := carry hb1 hzz c1; have d2 := carry hb1 hzz c2; have d3 := carry hb1 hzz c3; have d4 := carry hb1 hzz c4; have g3 := carryF hb1 hzz f3; have g4 := carryF hb1 hzz f4; have hs1 : W.heap.size ≤ w1.heap.size := hb1.size; have hz1 : w.heap.size < w1.heap.size := (by omega); have HB1 := hid hb1; have HR1 := hid hr1; clear hb1 hr1)
    | (go_at_call 119; refine (cloneVal_row (B := B) (xs := c.vals) (HV.out.move (Fr.of_below ?_)) (by intro k hk; exact Nat.lt_of_lt_of_le (HX.out k hk) (Nat.le_of_lt hz1)) hvl).mono ?_; (first | exact HB.out.drew | exact HB.out.trans (HB1.out.mono (by omega))); rintro e w2 ⟨vl', rfl, hb2, hr2, ho2⟩; obtain ⟨A2, n2, p2, e2, -⟩ := id hr2; subst e2; have e0 := carry hb2 hz1 d0; have e1 := carry hb2 hz1 d1; have e2 := carry hb2 hz1 d2; have e3 := carry hb2 hz1 d3; have e4 := carry hb2 hz1 d4; have k3 := carryF hb2 hz1 g3; have k4 := carryF hb2 hz1 g4; have hs2 : w1.heap.size ≤ w2.heap.size := hb2.size; have HB2 := hid hb2; have HR2 := hid hr2; have HO2 := hid ho2; clear hb2 hr2 ho2))
  all_goals
    have HR := hid (HR1.out.move (Fr.of_below HB2.out))
    have q2 := (HB2.out.block (w.heap.size + 1) (by omega)).trans ((HB1.out.block (w.heap.size + 1) (by omega)).trans R2.out)
    have y0 := (cell_of_row w2 _ 0 _ _ _ q2).trans (b := some (Value.int IntKind.i64 0)) rfl
    have y1 := (cell_of_row w2 _ 1 _ _ _ q2).trans (b := some (Value.int IntKind.i64 0)) rfl
    have y2 := (cell_of_row w2 _ 2 _ _ _ q2).trans (b := some (Value.int IntKind.i64 0)) rfl
    have y3 := (cell_of_row w2 _ 3 _ _ _ q2).trans (b := some (Value.slice none 0 0)) rfl
    have y4 := (cell_of_row w2 _ 4 _ _ _ q2).trans (b := some (Value.slice none 0 0)) rfl
    have z0 : w2.frozen? ⟨w.heap.size + 1, 0, none⟩ = false := by simp [World.frozen?, q2]
    have z1 : w2.frozen? ⟨w.heap.size + 1, 1, none⟩ = false := by simp [World.frozen?, q2]
    have z2 : w2.frozen? ⟨w.heap.size + 1, 2, none⟩ = false := by simp [World.frozen?, q2]
    have z3 : w2.frozen? ⟨w.heap.size + 1, 3, none⟩ = false := by simp [World.frozen?, q2]
    have z4 : w2.frozen? ⟨w.heap.size + 1, 4, none⟩ = false := by simp [World.frozen?, q2]
    have HQ := hid q2
    clear HR1 q2 c0 c1 c2 c3 c4 f3 f4 d0 d1 d2 d3 d4 g3 g4
    go_wp2
    have t1 := Typ.of ((HB2.out.block w.heap.size (by omega)).trans ((HB1.out.block w.heap.size (by omega)).trans R1.out))
    have t2 := Typ.of HQ.out
    have F := ((((((Fr.set (B := B) (p := ⟨w.heap.size, 3, none⟩) (Value.slice A1 n1 p1) t1 (by decide) (by decide) hB).trans (Fr.set (p := ⟨w.heap.size, 4, none⟩) (Value.slice A2 n2 p2) (t1.set _ _) (by decide) (by decide) hB)).trans
      (Fr.set (p := ⟨w.heap.size + 1, 0, none⟩) (Value.int .i64 c.kind) ((t2.set _ _).set _ _) (by decide) (by decide) (by show B ≤ w.heap.size + 1; omega))).trans (Fr.set (p := ⟨w.heap.size + 1, 1, none⟩) (Value.int .i64 c.a) (((t2.set _ _).set _ _).set _ _) (by decide) (by decide) (by show B ≤ w.heap.size + 1; omega))).trans
      (Fr.set (p := ⟨w.heap.size + 1, 2, none⟩) (Value.int .i64 c.b) ((((t2.set _ _).set _ _).set _ _).set _ _) (by decide) (by decide) (by show B ≤ w.heap.size + 1; omega))).trans (Fr.set (p := ⟨w.heap.size + 1, 3, none⟩) (Value.slice A1 n1 p1) (((((t2.set _ _).set _ _).set _ _).set _ _).set _ _) (by decide) (by decide) (by show B ≤ w.heap.size + 1; omega))).trans
      (Fr.set (p := ⟨w.heap.size + 1, 4, none⟩) (Value.slice A2 n2 p2) ((((((t2.set _ _).set _ _).set _ _).set _ _).set _ _).set _ _) (by decide) (by decide) (by show B ≤ w.heap.size + 1; omega))
    refine bodyPost_ret (v := .agg #[.int .i64 c.kind, .int .i64 c.a, .int .i64 c.b, .slice A1 n1 p1, .slice A2 n2 p2]) (by simp [results, Try.results109, go_sem, y0, y1, y2, y3, y4]) rfl ⟨_, _, rfl, ?_, HR.out.move F, HR2.out.move F, own_low (own_set (own_set (own_set (own_set (own_set (own_set (own_set HO2.out (by omega) _ _) (by omega) _ _) (by omega) _ _) (by omega) _ _) (by omega) _ _) (by omega) _ _) (by omega) _ _) (Nat.le_of_lt hz1)⟩
    exact (((((((HB.out.trans ((HB1.out.mono (by omega)).trans (HB2.out.mono (by omega)))).setCell (Nat.le_refl _) _).setCell (Nat.le_refl _) _).setCell (Nat.le_succ _) _).setCell (Nat.le_succ _) _).setCell (Nat.le_succ _) _).setCell (Nat.le_succ _) _).setCell (Nat.le_succ _) _
theorem own_calls {B : Bd} {c : CD} {ks vl : Value} {w : World} (hB : B ≤ w.heap.size) (hX : ∀ k, B.X k → k < w.heap.size) (hk : RowR B w 1 ks (c.keys.map keyRow)) (hv : RowR B w 3 vl (c.vals.map VD.row)) (hkl : c.keys.length ≤ 1000000) (hvl : c.vals.length ≤ 1000000) :
    Calls Try.prog 109 #[.agg #[.int .i64 c.kind, .int .i64 c.a, .int .i64 c.b, ks, vl]] w fun e w' => ∃ ks' vl', e = .returned (.agg #[.int .i64 c.kind, .int .i64 c.a, .int .i64 c.b, ks', vl']) ∧ Below w.heap.size w w' ∧
      RowR B w' 1 ks' (c.keys.map keyRow) ∧ RowR B w' 3 vl' (c.vals.map VD.row) := by
  refine (own_callsO hB hX hk hv hkl hvl).mono ?_
  rintro e w' ⟨ks', vl', rfl, h1, h2, h3, _⟩
  exact ⟨ks', vl', rfl, h1, h2, h3⟩
end Go.Proofs.Ytdgpblhmfkpblaa.Pg
