/- Rows of texts. -/
import Derived.Test.YticbjhicjegfoaaQc
import Derived.Test.YticbjhicjegfoaaQt1
namespace Go.Proofs.Yticbjhicjegfoaa.Q
open Go.RowKit
open Go.Proofs.YticbjhicjegfoaaW.PrintWords

/-- A row of texts in memory. -/
def TextsAt (w : World) (b : Nat) (l : List ByteArray) : Prop := ∀ (j : Nat) (s : ByteArray), l[j]? = some s → w.cell? ⟨b, j, none⟩ = some (.string s)
theorem TextsAt.drewN {w : World} {b : Nat} {l : List ByteArray} (h : TextsAt w b l) (m : Nat) : TextsAt (w.drewN m) b l := h
theorem lit_beq (s : ByteArray) (L : List UInt8) : (s.toList == L) = beqB s ⟨L.toArray⟩ := by
  rw [← toList_beq, show (⟨L.toArray⟩ : ByteArray).toList = L by rw [ByteArray.toList_eq]]
set_option maxHeartbeats 1600000 in
set_option maxRecDepth 100000 in
theorem in_rc {w : World} {b : Nat} {l : List ByteArray} (h : TextsAt w b l) (hl : l.length ≤ 1000) (s : ByteArray) : Calls Try.prog 59 #[.slice (some ⟨b, 0, none⟩) l.length l.length, .string s] w fun e w' => e = .returned (.bool (l.any (fun x => beqB x s))) ∧ w' = w := by
  have H := hid h
  clear h
  go_enter Try.func59, Try.ntmps59
  go_wp2_with fail
  go_loop [5] (fun i => ∃ j : Nat, j ≤ l.length ∧ i = .int .i64 j ∧ Box ((l.take j).any (fun x => beqB x s) = false)) (fun i => l.length - (RowKit.intOf i).toNat)
  case atStart => exact ⟨0, Nat.zero_le _, rfl, hid (by simp)⟩
  case round =>
    obtain ⟨j, hj, rfl, HA⟩ := hrel
    rcases Nat.lt_or_ge j l.length with hlt | hge
    · have hx : l[j]? = some l[j] := List.getElem?_eq_getElem hlt
      have hc := H.out j _ hx
      have htk := List.take_succ_eq_append_getElem hlt
      generalize l[j] = x at hx hc htk
      have HTK := hid htk
      have hlt' : (j : Int) < (l.length : Int) := by omega
      cases hb : beqB x s
      · have hq : (x.toList == s.toList) = false := by rw [toList_beq]; exact hb
        have HB := hid hb
        clear hx htk hb
        go_wp2_with fail
        go_round
        case rel => exact ⟨j + 1, by omega, by go_num, hid (by rw [HTK.out, List.any_append, HA.out]; simp [HB.out])⟩
        case measure => simp [RowKit.intOf]; omega
      · have hq : (x.toList == s.toList) = true := by rw [toList_beq]; exact hb
        have HB : Box (l.any (fun x => beqB x s) = true) := hid (List.any_eq_true.2 ⟨x, List.mem_of_getElem? hx, hb⟩)
        clear hx htk hb
        go_wp2_with fail
        go_ret
        exact ⟨ret_bool HB.out, rfl⟩
    · obtain rfl : j = l.length := by omega
      have HB : Box (l.any (fun x => beqB x s) = false) := by have := HA.out; rw [List.take_length] at this; exact hid this
      clear HA
      go_wp2_with fail
      go_ret
      exact ⟨ret_bool HB.out, rfl⟩
theorem among_hit {w : World} {b : Nat} {l : List ByteArray} (h : TextsAt w b l) (hl : l.length ≤ 1000) (s : ByteArray) {q : Bool} (hq : l.any (fun x => beqB x s) = q) : Calls Try.prog 59 #[.slice (some ⟨b, 0, none⟩) l.length l.length, .string s] w fun e w' => e = .returned (.bool q) ∧ w' = w := by
  have := in_rc h hl s
  rwa [hq] at this
theorem texts_new (w : World) (l : List ByteArray) (t : TypeId) : TextsAt (w.alloc (.cells (l.map Value.string).toArray t)) w.heap.size l := fun j s hj => by
  refine (cell_of_row _ _ j _ _ _ (heap_alloc_new _ _)).trans ?_
  simp [hj]
open Go.Proofs.YticbjhicjegfoaaW.PrintWords

theorem infoU8 : (Try.prog.info? 5).map (fun i => (i.zero, i.size, i.bytes)) = some (some (.int .u8 0), 1, 1) := by kernel_rfl
def intsB (l : List UInt8) : List Int := l.map (fun c => (c.toNat : Int))
theorem strOf_intsB (l : List UInt8) : strOfNums (intsB l) = bytesOf l := by
  unfold strOfNums bytesOf intsB
  rw [List.map_map]
  congr 2
  conv => rhs; rw [← List.map_id l]
  refine List.map_congr_left fun c _ => ?_
  show UInt8.ofNat (c.toNat : Int).toNat = id c
  rw [Int.toNat_natCast]; exact UInt8.ofNat_toNat
theorem q34 {c : UInt8} (h : c.toNat = 34) (r b : List UInt8) (n : Nat) : quotedL (c :: r) b n = (some b, n + 1) := by cases r <;> simp [quotedL, h]
theorem q92n {c : UInt8} (h : c.toNat = 92) (b : List UInt8) (n : Nat) : quotedL [c] b n = (none, n) := by simp [quotedL, beq_nat, h]
theorem q92q {c d : UInt8} (h : c.toNat = 92) (hd : d.toNat = 34 ∨ d.toNat = 92) (r b : List UInt8) (n : Nat) : quotedL (c :: d :: r) b n = quotedL r (b ++ [d]) (n + 2) := by rcases hd with hd | hd <;> simp [quotedL, beq_nat, h, hd]
theorem q92l {c d : UInt8} (h : c.toNat = 92) (hd : d.toNat = 110) (r b : List UInt8) (n : Nat) : quotedL (c :: d :: r) b n = quotedL r (b ++ [10]) (n + 2) := by simp [quotedL, beq_nat, h, hd]
theorem q92b {c d : UInt8} (h : c.toNat = 92) (hd : d.toNat ≠ 34 ∧ d.toNat ≠ 92 ∧ d.toNat ≠ 110) (r b : List UInt8) (n : Nat) : quotedL (c :: d :: r) b n = (none, n + 1) := by simp [quotedL, beq_nat, h, hd.1, hd.2.1, hd.2.2]
theorem qctl {c : UInt8} (h : c.toNat ≠ 34 ∧ c.toNat ≠ 92) (hc : c.toNat < 32 ∨ 126 < c.toNat) (r b : List UInt8) (n : Nat) : quotedL (c :: r) b n = (none, n) := by rcases hc with hc | hc <;> cases r <;> simp [quotedL, beq_nat, h.1, h.2, hc]
theorem qok {c : UInt8} (h : c.toNat ≠ 34 ∧ c.toNat ≠ 92) (hc : ¬ c.toNat < 32 ∧ ¬ 126 < c.toNat) (r b : List UInt8) (n : Nat) : quotedL (c :: r) b n = quotedL r (b ++ [c]) (n + 1) := by cases r <;> simp [quotedL, beq_nat, h.1, h.2, hc.1, hc.2]
def quoT (n : Nat) (ln : Bool) : Option (List UInt8) × Nat → Tk × Nat
  | (none, e) => (⟨6, ⟨#[]⟩, 0, n, ln⟩, e)
  | (some b, e) => (⟨2, bytesOf b, 0, n, ln⟩, e)
theorem tok_quo {src : ByteArray} {n : Nat} (ln : Bool) (hn : n < src.size) (hq : src[n].toNat = 34) {Q : Option (List UInt8) × Nat} (hQ : quotedL (dropB src (n + 1)) [] (n + 1) = Q) :
    tokL (dropB src n) ln n = quoT n ln Q := by
  have hd : digitB src[n] = false := by
    cases h : digitB src[n]
    · rfl
    · have := (digit_iff _).1 h; omega
  rw [drop_lt hn]
  unfold tokL
  simp only [hd, beq_nat, hq, hQ, Bool.false_eq_true, if_false, decide_true, if_true]
  rcases Q with ⟨_ | _, _⟩ <;> rfl
section
variable {w : World}
set_option maxHeartbeats 6400000 in
set_option maxRecDepth 100000 in
theorem quoted_c {src : ByteArray} {n : Nat} {ln : Bool} (hs : src.size ≤ 4096) (hn : n < src.size) (hq : src[n].toNat = 34) :
    Calls Try.prog 45 #[.string src, .int .i64 (n : Nat), .agg #[.int .i64 0, .string ⟨#[]⟩, .int .i64 0, .int .i64 (n : Nat), .bool ln]] w fun e w' => e = .returned (tkV (tokL (dropB src n) ln n)) ∧ Below w.heap.size w w' := by
  obtain ⟨Q, hQ⟩ : ∃ Q, quotedL (dropB src (n + 1)) [] (n + 1) = Q := ⟨_, rfl⟩
  have HT := hid (tok_quo ln hn hq hQ)
  have HQ := hid hQ
  have hb0 : Below w.heap.size w ((w.alloc (.cells #[.int .i64 6, .string ⟨#[]⟩, .int .i64 0, .int .i64 (n : Nat), .bool ln] 59)).alloc (.cells #[.int .i64 0, .string ⟨#[]⟩, .int .i64 0, .int .i64 0, .bool false, .int .i64 0] 61)) := ((Below.refl _ _).alloc (Nat.le_refl _) _).alloc (by simp) _
  have rt : ((w.alloc (.cells #[.int .i64 6, .string ⟨#[]⟩, .int .i64 0, .int .i64 (n : Nat), .bool ln] 59)).alloc (.cells #[.int .i64 0, .string ⟨#[]⟩, .int .i64 0, .int .i64 0, .bool false, .int .i64 0] 61)).heap[w.heap.size]? = some (.cells #[.int .i64 6, .string ⟨#[]⟩, .int .i64 0, .int .i64 (n : Nat), .bool ln] 59 (0, 0)) := by
    rw [heap_alloc_old _ _ (by simp)]; exact heap_alloc_new _ _
  have rr : ((w.alloc (.cells #[.int .i64 6, .string ⟨#[]⟩, .int .i64 0, .int .i64 (n : Nat), .bool ln] 59)).alloc (.cells #[.int .i64 0, .string ⟨#[]⟩, .int .i64 0, .int .i64 0, .bool false, .int .i64 0] 61)).heap[w.heap.size + 1]? = some (.cells #[.int .i64 0, .string ⟨#[]⟩, .int .i64 0, .int .i64 0, .bool false, .int .i64 0] 61 (0, 0)) := by
    have := heap_alloc_new (w.alloc (.cells #[.int .i64 6, .string ⟨#[]⟩, .int .i64 0, .int .i64 (n : Nat), .bool ln] 59)) (.cells #[.int .i64 0, .string ⟨#[]⟩, .int .i64 0, .int .i64 0, .bool false, .int .i64 0] 61)
    rwa [show (w.alloc (.cells #[.int .i64 6, .string ⟨#[]⟩, .int .i64 0, .int .i64 (n : Nat), .bool ln] 59)).heap.size = w.heap.size + 1 by simp] at this
  have hz : ((w.alloc (.cells #[.int .i64 6, .string ⟨#[]⟩, .int .i64 0, .int .i64 (n : Nat), .bool ln] 59)).alloc (.cells #[.int .i64 0, .string ⟨#[]⟩, .int .i64 0, .int .i64 0, .bool false, .int .i64 0] 61)).heap.size = w.heap.size + 2 := by simp
  have HB0 := hid hb0
  have RT := hid rt
  have RR := hid rr
  have HZ := hid hz
  clear hQ hq hb0 rt rr hz
  go_enter Try.func45, Try.ntmps45
  go_wp2_with fail
  generalize ((w.alloc (.cells #[.int .i64 6, .string ⟨#[]⟩, .int .i64 0, .int .i64 (n : Nat), .bool ln] 59)).alloc (.cells #[.int .i64 0, .string ⟨#[]⟩, .int .i64 0, .int .i64 0, .bool false, .int .i64 0] 61)) = W0 at HB0 RT RR HZ ⊢
  go_loopw [7, 8] (fun x y wx => ∃ (i : Nat) (bs : List UInt8), i ≤ src.size ∧ n + 1 ≤ i ∧ bs.length ≤ i ∧ y = .int .i64 (i : Nat) ∧ Box (quotedL (dropB src i) bs i = Q) ∧ Box (wx.ownsRow W0.heap.size 5 1 x bs.length (nums .u8 (intsB bs))) ∧ Box (Below W0.heap.size W0 wx)) (fun _ y _ => src.size - (RowKit.intOf y).toNat)
  case atStart => exact ⟨n + 1, [], hn, Nat.le_refl _, Nat.zero_le _, by go_num, HQ, hid (own_nil _ _ _ _), hid (Below.refl _ _)⟩
  case round =>
    clear HQ
    obtain ⟨i, bs, hi, hni, hbl, rfl, HQ, HO, HB⟩ := hrel
    have hbelow : Below w.heap.size w wr := HB0.out.trans (HB.out.mono HB0.out.size)
    have HBW := hid hbelow
    have rt := (HB.out.block w.heap.size (by have := HZ.out; omega)).trans RT.out
    have rr := (HB.out.block (w.heap.size + 1) (by have := HZ.out; omega)).trans RR.out
    have t0 := (cell_of_row _ _ 0 _ _ _ rt).trans (b := some (Value.int .i64 6)) rfl
    have t1 := (cell_of_row _ _ 1 _ _ _ rt).trans (b := some (Value.string ⟨#[]⟩)) rfl
    have t2 := (cell_of_row _ _ 2 _ _ _ rt).trans (b := some (Value.int .i64 0)) rfl
    have t3 := (cell_of_row _ _ 3 _ _ _ rt).trans (b := some (Value.int .i64 (n : Nat))) rfl
    have t4 := (cell_of_row _ _ 4 _ _ _ rt).trans (b := some (Value.bool ln)) rfl
    have ft : ∀ k, wr.frozen? ⟨w.heap.size, k, none⟩ = false := fun k => by simp [World.frozen?, rt]
    have fr : ∀ k, wr.frozen? ⟨w.heap.size + 1, k, none⟩ = false := fun k => by simp [World.frozen?, rr]
    have r0 := (cell_of_row _ _ 0 _ _ _ rr).trans (b := some (Value.int .i64 0)) rfl
    have r1 := (cell_of_row _ _ 1 _ _ _ rr).trans (b := some (Value.string ⟨#[]⟩)) rfl
    have r2 := (cell_of_row _ _ 2 _ _ _ rr).trans (b := some (Value.int .i64 0)) rfl
    have r3 := (cell_of_row _ _ 3 _ _ _ rr).trans (b := some (Value.int .i64 0)) rfl
    have r4 := (cell_of_row _ _ 4 _ _ _ rr).trans (b := some (Value.bool false)) rfl
    have r5 := (cell_of_row _ _ 5 _ _ _ rr).trans (b := some (Value.int .i64 0)) rfl
    have ft0 := ft 0
    have ft1 := ft 1
    have fr0 := fr 0
    have fr1 := fr 1
    have fr2 := fr 2
    have fr3 := fr 3
    have fr4 := fr 4
    have fr5 := fr 5
    have hq := HQ.out
    have hlb : wr.heap.size ≥ w.heap.size + 2 := by have := HZ.out; have := HB.out.size; omega
    clear rt rr ft fr HQ
    rcases Nat.lt_or_ge i src.size with hlt | hge
    · have hlt' : (i : Int) < (src.size : Int) := by omega
      have hd := drop_lt hlt
      rw [hd] at hq
      obtain ⟨c, hc⟩ : ∃ c, c = src[i] := ⟨_, rfl⟩
      rw [← hc] at hq
      have hc8 : c.toNat < 256 := c.toNat_lt
      by_cases h34 : c.toNat = 34
      · rw [q34 h34] at hq
        have c34 : (src[i].toNat : Int) = 34 := by rw [← hc]; omega
        have HE := hid (show tokL (dropB src n) ln n = (⟨2, bytesOf bs, 0, n, ln⟩, i + 1) by rw [HT.out, ← hq]; rfl)
        have hge' : ¬ (src.size : Int) ≤ (i : Int) := by omega
        have hcv := own_string (P := Try.prog) (dst := 9) Try.underlying24 Try.underlying5 Try.underlying9 (own_setCell HO.out (p := ⟨w.heap.size, 0, none⟩) (by
          intro e
          rcases own_base' HO.out with h | ⟨b, h, hb⟩
          · rw [h] at e; cases e
          · rw [h] at e; injection e with e; have e' : w.heap.size = b := e; have := HZ.out; omega) (.int .i64 2))
        rw [strOf_intsB] at hcv
        clear hq hd hc h34 HO HB HZ RT RR
        go_wp2_with fail
        exact bodyPost_ret (v := .agg #[.int .i64 2, .string (bytesOf bs), .int .i64 0, .int .i64 (n : Nat), .bool ln, .int .i64 ((i + 1 : Nat) : Int)]) (by simp [results, Try.results45, go_sem, r0, r1, r2, r3, r4, r5]) rfl ⟨by rw [HE.out]; rfl, ((((((((HBW.out.setCell (by simp) _).setCell (by simp) _).setCell (by simp) _).setCell (by simp) _).setCell (by simp) _).setCell (by simp) _).setCell (by simp) _).setCell (by simp) _)⟩
      · have c34 : ((src[i].toNat : Int) != 34) = true := by rw [← hc]; simp; omega
        by_cases h92 : c.toNat = 92
        · have c92 : (src[i].toNat : Int) = 92 := by rw [← hc]; omega
          rcases Nat.lt_or_ge (i + 1) src.size with hl2 | hg2
          · have hl2' : (i : Int) + 1 < (src.size : Int) := by omega
            rw [drop_lt hl2] at hq
            obtain ⟨d, hdd⟩ : ∃ d, d = src[i + 1] := ⟨_, rfl⟩
            rw [← hdd] at hq
            have hd8 : d.toNat < 256 := d.toNat_lt
            by_cases d34 : d.toNat = 34
            · rw [q92q h92 (.inl d34), hdd] at hq
              have e34 : (src[i + 1].toNat : Int) = 34 := by rw [← hdd]; omega
              clear hd hc hdd h92 h34 d34
              have HQ2 := hid hq
              clear hq HT r0 r1 r2 r3 r4 r5 t0 t1 t2 t3 t4 ft0 ft1 fr0 fr1 fr2 fr3 fr4 fr5
              go_wp2_with (at_builtin; refine print_append_num (w0 := W0) W0.heap.size rfl _ _ 24 5 .u8 1 rfl Try.underlying24 infoU8 (by decide) _ (intsB bs) 34 rfl rfl (by rw [show (intsB bs).length = bs.length by simp [intsB]]; exact HO.out) HB.out HB.out.size (by rw [show (intsB bs).length = bs.length by simp [intsB]]; omega) ?_; intro v1 w1 hown hb1 _ _; have HO1 : Box (w1.ownsRow W0.heap.size 5 1 v1 (bs ++ [src[i + 1]]).length (nums .u8 (intsB (bs ++ [src[i + 1]])))) := hid (by have := hown; simp only [intsB, List.map_append, List.map_cons, List.map_nil, List.length_append, List.length_map, List.length_cons, List.length_nil] at this ⊢; rw [e34]; exact this); have HB1 := hid hb1; clear hown hb1)
              go_roundw
              case rel => exact ⟨i + 2, bs ++ [src[i + 1]], by omega, by omega, by simp; omega, by go_num, HQ2, HO1, HB1⟩
              case measure => simp [RowKit.intOf]; omega
            · by_cases d92 : d.toNat = 92
              · rw [q92q h92 (.inr d92), hdd] at hq
                have e92 : (src[i + 1].toNat : Int) = 92 := by rw [← hdd]; omega
                clear hd hc hdd h92 h34 d34 d92
                have HQ2 := hid hq
                clear hq HT r0 r1 r2 r3 r4 r5 t0 t1 t2 t3 t4 ft0 ft1 fr0 fr1 fr2 fr3 fr4 fr5
                go_wp2_with (at_builtin; refine print_append_num (w0 := W0) W0.heap.size rfl _ _ 24 5 .u8 1 rfl Try.underlying24 infoU8 (by decide) _ (intsB bs) 92 rfl rfl (by rw [show (intsB bs).length = bs.length by simp [intsB]]; exact HO.out) HB.out HB.out.size (by rw [show (intsB bs).length = bs.length by simp [intsB]]; omega) ?_; intro v1 w1 hown hb1 _ _; have HO1 : Box (w1.ownsRow W0.heap.size 5 1 v1 (bs ++ [src[i + 1]]).length (nums .u8 (intsB (bs ++ [src[i + 1]])))) := hid (by have := hown; simp only [intsB, List.map_append, List.map_cons, List.map_nil, List.length_append, List.length_map, List.length_cons, List.length_nil] at this ⊢; rw [e92]; exact this); have HB1 := hid hb1; clear hown hb1)
                go_roundw
                case rel => exact ⟨i + 2, bs ++ [src[i + 1]], by omega, by omega, by simp; omega, by go_num, HQ2, HO1, HB1⟩
                case measure => simp [RowKit.intOf]; omega
              · have e34 : ((src[i + 1].toNat : Int) == 34) = false := by rw [← hdd]; simp; omega
                have e92 : ((src[i + 1].toNat : Int) == 92) = false := by rw [← hdd]; simp; omega
                by_cases d110 : d.toNat = 110
                · rw [q92l h92 d110] at hq
                  have e110 : (src[i + 1].toNat : Int) = 110 := by rw [← hdd]; omega
                  clear hd hc hdd h92 h34 d34 d92 d110
                  have HQ2 := hid hq
                  clear hq HT r0 r1 r2 r3 r4 r5 t0 t1 t2 t3 t4 ft0 ft1 fr0 fr1 fr2 fr3 fr4 fr5
                  go_wp2_with (at_builtin; refine print_append_num (w0 := W0) W0.heap.size rfl _ _ 24 5 .u8 1 rfl Try.underlying24 infoU8 (by decide) _ (intsB bs) 10 rfl rfl (by rw [show (intsB bs).length = bs.length by simp [intsB]]; exact HO.out) HB.out HB.out.size (by rw [show (intsB bs).length = bs.length by simp [intsB]]; omega) ?_; intro v1 w1 hown hb1 _ _; have HO1 : Box (w1.ownsRow W0.heap.size 5 1 v1 (bs ++ [10]).length (nums .u8 (intsB (bs ++ [10])))) := hid (by have := hown; simp only [intsB, List.map_append, List.map_cons, List.map_nil, List.length_append, List.length_map, List.length_cons, List.length_nil] at this ⊢; exact this); have HB1 := hid hb1; clear hown hb1)
                  go_roundw
                  case rel => exact ⟨i + 2, bs ++ [10], by omega, by omega, by simp; omega, by go_num, HQ2, HO1, HB1⟩
                  case measure => simp [RowKit.intOf]; omega
                · rw [q92b h92 ⟨d34, d92, d110⟩] at hq
                  have e110 : ((src[i + 1].toNat : Int) == 110) = false := by rw [← hdd]; simp; omega
                  clear hd hc hdd h92 h34 d34 d92 d110
                  have HE := hid (show tokL (dropB src n) ln n = (⟨6, ⟨#[]⟩, 0, n, ln⟩, i + 1) by rw [HT.out, ← hq]; rfl)
                  clear hq HO HB HZ RT RR
                  go_wp2_with fail
                  exact bodyPost_ret (v := .agg #[.int .i64 6, .string ⟨#[]⟩, .int .i64 0, .int .i64 (n : Nat), .bool ln, .int .i64 ((i + 1 : Nat) : Int)]) (by simp [results, Try.results45, go_sem, r0, r1, r2, r3, r4, r5]) rfl ⟨by rw [HE.out]; rfl, (((((((HBW.out.setCell (by simp) _).setCell (by simp) _).setCell (by simp) _).setCell (by simp) _).setCell (by simp) _).setCell (by simp) _))⟩
          · have hl2' : ¬ (i : Int) + 1 < (src.size : Int) := by omega
            rw [drop_ge hg2, q92n h92] at hq
            have c32 : ¬ (src[i].toNat : Int) < 32 := by omega
            have c126 : ¬ (126 : Int) < (src[i].toNat : Int) := by omega
            clear hd hc h92 h34
            have HE := hid (show tokL (dropB src n) ln n = (⟨6, ⟨#[]⟩, 0, n, ln⟩, i) by rw [HT.out, ← hq]; rfl)
            clear hq HO HB HZ RT RR
            go_wp2_with fail
            exact bodyPost_ret (v := .agg #[.int .i64 6, .string ⟨#[]⟩, .int .i64 0, .int .i64 (n : Nat), .bool ln, .int .i64 ((i : Nat) : Int)]) (by simp [results, Try.results45, go_sem, r0, r1, r2, r3, r4, r5]) rfl ⟨by rw [HE.out]; rfl, (((((((HBW.out.setCell (by simp) _).setCell (by simp) _).setCell (by simp) _).setCell (by simp) _).setCell (by simp) _).setCell (by simp) _))⟩
        · have c92 : ((src[i].toNat : Int) == 92) = false := by rw [← hc]; simp; omega
          by_cases h32 : c.toNat < 32
          · rw [qctl ⟨h34, h92⟩ (.inl h32)] at hq
            have c32 : (src[i].toNat : Int) < 32 := by rw [← hc]; omega
            clear hd hc h92 h34
            have HE := hid (show tokL (dropB src n) ln n = (⟨6, ⟨#[]⟩, 0, n, ln⟩, i) by rw [HT.out, ← hq]; rfl)
            clear hq HO HB HZ RT RR
            go_wp2_with fail
            exact bodyPost_ret (v := .agg #[.int .i64 6, .string ⟨#[]⟩, .int .i64 0, .int .i64 (n : Nat), .bool ln, .int .i64 ((i : Nat) : Int)]) (by simp [results, Try.results45, go_sem, r0, r1, r2, r3, r4, r5]) rfl ⟨by rw [HE.out]; rfl, (((((((HBW.out.setCell (by simp) _).setCell (by simp) _).setCell (by simp) _).setCell (by simp) _).setCell (by simp) _).setCell (by simp) _))⟩
          · have c32 : ¬ (src[i].toNat : Int) < 32 := by rw [← hc]; omega
            by_cases h126 : 126 < c.toNat
            · rw [qctl ⟨h34, h92⟩ (.inr h126)] at hq
              have c126 : (126 : Int) < (src[i].toNat : Int) := by rw [← hc]; omega
              clear hd hc h92 h34
              have HE := hid (show tokL (dropB src n) ln n = (⟨6, ⟨#[]⟩, 0, n, ln⟩, i) by rw [HT.out, ← hq]; rfl)
              clear hq HO HB HZ RT RR
              go_wp2_with fail
              exact bodyPost_ret (v := .agg #[.int .i64 6, .string ⟨#[]⟩, .int .i64 0, .int .i64 (n : Nat), .bool ln, .int .i64 ((i : Nat) : Int)]) (by simp [results, Try.results45, go_sem, r0, r1, r2, r3, r4, r5]) rfl ⟨by rw [HE.out]; rfl, (((((((HBW.out.setCell (by simp) _).setCell (by simp) _).setCell (by simp) _).setCell (by simp) _).setCell (by simp) _).setCell (by simp) _))⟩
            · rw [qok ⟨h34, h92⟩ ⟨h32, h126⟩, hc] at hq
              have c126 : ¬ (126 : Int) < (src[i].toNat : Int) := by rw [← hc]; omega
              clear hd hc h92 h34
              have HQ2 := hid hq
              clear hq HT r0 r1 r2 r3 r4 r5 t0 t1 t2 t3 t4 ft0 ft1 fr0 fr1 fr2 fr3 fr4 fr5
              go_wp2_with (at_builtin; refine print_append_num (w0 := W0) W0.heap.size rfl _ _ 24 5 .u8 1 rfl Try.underlying24 infoU8 (by decide) _ (intsB bs) (src[i].toNat : Nat) rfl rfl (by rw [show (intsB bs).length = bs.length by simp [intsB]]; exact HO.out) HB.out HB.out.size (by rw [show (intsB bs).length = bs.length by simp [intsB]]; omega) ?_; intro v1 w1 hown hb1 _ _; have HO1 : Box (w1.ownsRow W0.heap.size 5 1 v1 (bs ++ [src[i]]).length (nums .u8 (intsB (bs ++ [src[i]])))) := hid (by have := hown; simp only [intsB, List.map_append, List.map_cons, List.map_nil, List.length_append, List.length_map, List.length_cons, List.length_nil] at this ⊢; exact this); have HB1 := hid hb1; clear hown hb1)
              go_roundw
              case rel => exact ⟨i + 1, bs ++ [src[i]], by omega, by omega, by simp; omega, by go_num, HQ2, HO1, HB1⟩
              case measure => simp [RowKit.intOf]; omega
    · obtain rfl : i = src.size := by omega
      rw [drop_ge (Nat.le_refl _)] at hq
      have HE := hid (show tokL (dropB src n) ln n = (⟨6, ⟨#[]⟩, 0, n, ln⟩, src.size) by rw [HT.out, ← hq]; rfl)
      clear hq HO HB HZ RT RR
      go_wp2_with fail
      exact bodyPost_ret (v := .agg #[.int .i64 6, .string ⟨#[]⟩, .int .i64 0, .int .i64 (n : Nat), .bool ln, .int .i64 ((src.size : Nat) : Int)]) (by simp [results, Try.results45, go_sem, r0, r1, r2, r3, r4, r5]) rfl ⟨by rw [HE.out]; rfl, (((((((HBW.out.setCell (by simp) _).setCell (by simp) _).setCell (by simp) _).setCell (by simp) _).setCell (by simp) _).setCell (by simp) _))⟩
end
open Go.Proofs.YticbjhicjegfoaaW.PrintWords

def wordsT : List ByteArray := wordsL.map bytesOf
def signsT : List ByteArray := signsL.map bytesOf
theorem any_in (s : ByteArray) : wordsT.any (fun x => beqB x s) = inL wordsL s.data.toList := by
  unfold wordsT inL beqB
  rw [List.any_map]
  rfl
section
variable {w : World}
set_option maxRecDepth 100000 in
set_option maxHeartbeats 1600000 in
theorem words_c : Calls Try.prog 60 #[] w fun e w' => ∃ b, e = .returned (.slice (some ⟨b, 0, none⟩) wordsT.length wordsT.length) ∧ TextsAt w' b wordsT ∧ Below w.heap.size w w' := by
  go_enter Try.func60, Try.ntmps60
  go_wp2_with fail
  go_ret
  exact ⟨w.heap.size, rfl, texts_new w wordsT _, (Below.refl _ _).alloc (Nat.le_refl _) _⟩
set_option maxRecDepth 100000 in
set_option maxHeartbeats 1600000 in
theorem signs_c : Calls Try.prog 48 #[] w fun e w' => ∃ b, e = .returned (.slice (some ⟨b, 0, none⟩) signsT.length signsT.length) ∧ TextsAt w' b signsT ∧ Below w.heap.size w w' ∧ w.heap.size ≤ b := by
  go_enter Try.func48, Try.ntmps48
  go_wp2_with fail
  go_ret
  exact ⟨w.heap.size, rfl, texts_new w signsT _, (Below.refl _ _).alloc (Nat.le_refl _) _, Nat.le_refl _⟩
set_option maxRecDepth 100000 in
theorem isWord_c (s : ByteArray) : Calls Try.prog 47 #[.string s] w fun e w' => e = .returned (.bool (inL wordsL s.data.toList)) ∧ Below w.heap.size w w' := by
  have HW := hid (any_in s)
  go_enter Try.func47, Try.ntmps47
  go_wp2_with fail
  refine (words_c).mono ?_
  rintro e w1 ⟨b, rfl, hT, hB⟩
  go_wp2_with fail
  refine (in_rc hT (by decide) s).mono ?_
  rintro e w2 ⟨rfl, rfl⟩
  go_wp2_with fail
  go_ret
  exact ⟨ret_bool HW.out.symm, hB⟩
end
end Go.Proofs.Yticbjhicjegfoaa.Q
