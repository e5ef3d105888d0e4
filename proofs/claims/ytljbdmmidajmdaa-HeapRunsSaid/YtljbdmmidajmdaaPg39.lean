/- The walk of HeapRuns. -/
import Derived.Test.YtljbdmmidajmdaaPg38
import Derived.Deep.DeepCutAuto
import Derived.Deep.Cut
import Derived.Deep.CutRange
namespace Go.Proofs.Ytljbdmmidajmdaa.Pg
open Go.RowKit

/-- A slice of numbers that is only read. -/
structure I64Row (w : World) (A : Option Addr) (n : Nat) (f : Nat → Int) : Prop where
  le : n ≤ 9223372036854775807
  at_ : ∀ j, j < n → ∃ x, A = some x ∧ x.block < w.heap.size ∧ w.cell? (x.add j) = some (.int .i64 (f j)) ∧ -9223372036854775808 ≤ f j ∧ f j ≤ 9223372036854775807
theorem I64Row.none (w : World) : I64Row w none 0 (fun _ => 0) := ⟨by decide, fun j hj => absurd hj (by omega)⟩
theorem I64Row.some {w : World} {x : Addr} {n cap : Nat} {zs : List Int} (hl : n ≤ cap) (hm : cap ≤ maxLen) (hz : zs.length = cap) (hc : ∀ i, i < zs.length → w.cell? (x.add i) = some (.int .i64 (zs.getD i 0))) (hw : ∀ n ∈ zs, (Lit.int .i64 n).wf = true) :
    I64Row w (Option.some x) n (fun j => zs.getD j 0) := by
  unfold maxLen at hm
  refine ⟨by omega, fun j hj => ⟨x, rfl, ?_, hc j (by omega), ?_⟩⟩
  · have h := block_lt_of_cell (hc j (by omega))
    have e : (x.add j).block = x.block := by unfold Addr.add; split <;> rfl
    rwa [e] at h
  · have : zs.getD j 0 ∈ zs := by
      rw [List.getD_eq_getElem?_getD, List.getElem?_eq_getElem (by omega)]
      exact List.getElem_mem _
    exact bounds_i64 (hw _ this)

theorem Reads.lens {B : Nat} {w : World} {c : CD} {A A' : Option Addr} {n cap n' cap' : Nat} (h : Reads B w c (.slice A n cap) (.slice A' n' cap')) : c.keys.length = n ∧ c.vals.length = n' := by
  obtain ⟨_, _, _, e, hl, _⟩ := h.k
  obtain ⟨_, _, _, e', hl', _⟩ := h.v
  injection e with _ e _
  injection e' with _ e' _
  rw [List.length_map] at hl hl'
  exact ⟨hl.trans e.symm, hl'.trans e'.symm⟩

/-- A cell in memory, its rows named. -/
structure CellIs (B : Nat) (w : World) (b o : Nat) (c : CD) (A : Option Addr) (n cap : Nat) (A' : Option Addr) (n' cap' : Nat) : Prop where
  c0 : w.cell? ⟨b, o, none⟩ = some (.int .i64 c.kind)
  c1 : w.cell? ⟨b, o + 1, none⟩ = some (.int .i64 c.a)
  c2 : w.cell? ⟨b, o + 2, none⟩ = some (.int .i64 c.b)
  c3 : w.cell? ⟨b, o + 3, none⟩ = some (.slice A n cap)
  c4 : w.cell? ⟨b, o + 4, none⟩ = some (.slice A' n' cap')
  r : Reads B w c (.slice A n cap) (.slice A' n' cap')
theorem CellIs.low {w W : World} {b o : Nat} {c : CD} {A : Option Addr} {n cap : Nat} {A' : Option Addr} {n' cap' : Nat} (h : CellIs w.heap.size w b o c A n cap A' n' cap') (hb : Below w.heap.size w W) : CellIs w.heap.size W b o c A n cap A' n' cap' :=
  ⟨keepc hb h.c0, keepc hb h.c1, keepc hb h.c2, keepc hb h.c3, keepc hb h.c4, h.r.move (Fr.of_below hb)⟩

theorem set_len {α : Type} (l : List α) (i : Nat) (x : α) : (l.set i x).length = l.length := List.length_set
set_option maxHeartbeats 800000 in
set_option maxRecDepth 100000 in
theorem hcells_nil (w : World) : Calls Try.prog 37 #[.pointer none] w fun e w' => e = .returned (.slice none 0 0) ∧ Below w.heap.size w w' := by
  go_enter Try.func37, Try.ntmps37
  go_wp2_with fail
  refine (hlen_nil _).mono ?_
  rintro e w1 ⟨rfl, rfl⟩
  go_wp2_with fail
  go_loopw [3, 9] (fun v i wx => v = .slice none 0 0 ∧ i = .int .i64 0 ∧ wx = w1) (fun _ _ _ => 0)
  case atStart => exact ⟨rfl, rfl, rfl⟩
  case round =>
    obtain ⟨rfl, rfl, rfl⟩ := hrel
    go_wp2_with fail
    go_ret
    exact ⟨rfl, Below.refl _ _⟩

theorem Run.more {B : Nat} {w : World} {a : Nat} {v u m : Value} {X Z : List CD} {N : Nat} (h : Run B w a v u m X Z N) : Box (Run B w a v u m X Z (N + 1)) := by
  obtain ⟨D, hs, L, h1, h2, h3, h4, h5⟩ := h.ex
  exact ⟨⟨D, hs, L, h1, h2, h3, by omega, h5⟩⟩

set_option maxHeartbeats 16000000 in
set_option maxRecDepth 100000 in
theorem hruns_c (A : Option Addr) (len cap : Nat) (cs : List CD) (A' : Option Addr) (len' cap' : Nat) (f : Nat → Int) (n : Int) (hn0 : 0 ≤ n) (hn1 : n ≤ 255) (w : World) (hm : len ≤ maxLen) (hC : CRow w.heap.size w A len cs) (hR : I64Row w A' len' f) :
    Calls Try.prog 9 #[.slice A len cap, .slice A' len' cap', .int .u8 n] w fun e w' => e = .returned (.bool true) ∧ Below w.heap.size w w' := by
  have HR := hid hR
  have HC := hid hC
  have hlen' := hR.le
  have HL := hid hC.len
  unfold maxLen at hm
  clear hR hC
  have y0 : n.tmod 60 = n % 60 := Int.tmod_eq_emod_of_nonneg hn0
  have hq := fun (w : World) (a : Option Addr) (n c n' c' : Nat) => Lib.run_eql_slice_nil (P := Try.prog) w 44 31 a n c n' c' Try.underlying44
  go_enter Try.func9, Try.ntmps9
  go_wp2_with fail
  refine (Hp.new (B := w.heap.size) w (Nat.le_refl _)).mono ?_
  rintro e w1 ⟨a, rfl, D, hH, hb, -⟩
  have HB := hid hb
  have HH := hid hH
  have s1 := hb.size
  clear hH hb
  by_cases hb1 : (60 : Int) < len
  · go_wp2_with fail
    refine (hawake_c _).mono ?_
    rintro e w2 ⟨rfl, hb2⟩
    have HB2 := hid (HB.out.trans (hb2.mono s1))
    clear hb2
    go_wp2_with fail
    go_ret
    exact ⟨rfl, HB2.out⟩
  · by_cases hb2 : (60 : Int) < len'
    · go_wp2_with fail
      refine (hawake_c _).mono ?_
      rintro e w2 ⟨rfl, hb2⟩
      have HB2 := hid (HB.out.trans (hb2.mono s1))
      clear hb2
      go_wp2_with fail
      go_ret
      exact ⟨rfl, HB2.out⟩
    · go_wp2_with fail
      go_loopw [8] (fun i wx => ∃ k : Nat, k ≤ len ∧ i = .int .i64 k ∧ wx = w1 ∧ Box (∀ j c, j < k → cs[j]? = some c → c.keys.length ≤ 5 ∧ c.vals.length ≤ 9)) (fun i _ => len - (intOf i).toNat)
      case atStart => exact ⟨0, by omega, rfl, rfl, hid (fun j c hj => absurd hj (by omega))⟩
      case round =>
        obtain ⟨k, hk, rfl, rfl, HS⟩ := hrel
        rcases Nat.lt_or_ge k len with hlt | hge
        · have hlt' : (k : Int) < len := by omega
          have hk0 : (0 : Int) ≤ k := by omega
          have hx : cs[k]? = some (cs[k]'(by rw [HL.out]; exact hlt)) := List.getElem?_eq_getElem (by rw [HL.out]; exact hlt)
          generalize cs[k]'(by rw [HL.out]; exact hlt) = c at hx
          obtain ⟨b, o, rfl, A1, n1, p1, A2, n2, p2, a0, a1, a2, a3, a4, ar⟩ := (HC.out.below HB.out).at_ k c hx
          have HX := hid hx
          have hl := ar.lens
          have HAR := hid hl
          clear hl ar hx a0 a1 a2
          by_cases h1 : (5 : Int) < n1
          · go_wp2_with fail
            refine (hawake_c _).mono ?_
            rintro e w2 ⟨rfl, hb2⟩
            have HB2 := hid (HB.out.trans (hb2.mono s1))
            clear hb2
            go_wp2_with fail
            go_ret
            exact ⟨rfl, HB2.out⟩
          · by_cases h2 : (9 : Int) < n2
            · go_wp2_with fail
              refine (hawake_c _).mono ?_
              rintro e w2 ⟨rfl, hb2⟩
              have HB2 := hid (HB.out.trans (hb2.mono s1))
              clear hb2
              go_wp2_with fail
              go_ret
              exact ⟨rfl, HB2.out⟩
            · go_wp2_with fail
              go_roundw
              case rel =>
                refine ⟨k + 1, by omega, by go_num, trivial, hid (fun j c' hj hc' => ?_)⟩
                rcases Nat.lt_or_ge j k with hjk | hjk
                · exact HS.out j c' hjk hc'
                · obtain rfl : j = k := by omega
                  obtain rfl := Option.some.inj (HX.out.symm.trans hc')
                  have := HAR.out
                  omega
              case measure => simp [intOf]; omega
        · obtain rfl : k = len := by omega
          have hSm := fun j c hc => HS.out j c (by have := (List.getElem?_eq_some_iff.1 hc).1; rw [HL.out] at this; exact this) hc
          have HSm := hid hSm
          have HRun0 := hid (Run.start HH.out)
          obtain ⟨i0, hi, hz0, hz1, hz2⟩ := info_parts infoCells
          have HI := hid hi
          clear hSm HS HH hi
          go_wp2_with fail
          go_loopw [9, 10, 11, 12] (fun v u m i wx => ∃ j X, j ≤ k ∧ i = .int .i64 (j : Nat) ∧ Box (Below w.heap.size w wx) ∧ Box (Run w.heap.size wx a v u m X X (j + 1)) ∧ X.length ≤ j) (fun _ _ _ i _ => k - (intOf i).toNat)
          case atStart => exact ⟨0, [], by omega, rfl, HB, HRun0, by simp⟩
          case round =>
            clear HB HRun0 s1
            obtain ⟨j, X, hj, rfl, HB, HRun, hX⟩ := hrel
            have s1 := HB.out.size
            rcases Nat.lt_or_ge j k with hlt | hge
            · have hlt' : (j : Int) < k := by omega
              have hj0 : (0 : Int) ≤ j := by omega
              go_upto_if 73 with fail
              go_cut [10, 11] (fun u m wx => Box (Below w.heap.size w wx) ∧ Box (Run w.heap.size wx a u9 u m X X (j + 2)))
              case first =>
                by_cases hcut : (j : Int) = n % 60
                · go_wp2_with fail
                  refine (HRun.out.mark s1 (by omega)).mono ?_
                  rintro e w3 ⟨a', rfl, hM, hb3⟩
                  have HM := hid hM
                  have HB3 := hid (HB.out.trans hb3)
                  have s3 := HB3.out.size
                  obtain ⟨inner, ho, hcc, hnil⟩ := hM.row
                  clear hM hb3 hcut
                  rcases Nat.eq_zero_or_pos X.length with hX0 | hX0
                  · obtain rfl : X = [] := List.length_eq_zero_iff.1 hX0
                    obtain rfl := hnil rfl
                    clear ho hcc hnil hX0
                    go_wp2_with fail
                    go_meet
                    have hW := (Below.refl w3.heap.size w3).alloc (Nat.le_refl _) (.cells #[] 31)
                    exact ⟨hid (HB3.out.trans (hW.mono s3)), hid (HM.out.done (by simp) hW ⟨[], World.ownsRow_made w3 #[] 0 s3 (Nat.zero_le _) rfl, rfl⟩ (fun x hx => by simp [Value.ownBlock] at hx; omega))⟩
                  · obtain ⟨g, cp, rfl, hg1, hg2⟩ := ho.form hX0
                    have hW := (Below.refl w3.heap.size w3).alloc (Nat.le_refl _) (.cells #[] 31)
                    have HMade := hid (World.ownsRow_made (base := w.heap.size) (e := 31) (size := 5) w3 #[] 0 s3 (Nat.zero_le _) rfl)
                    have HNews := hid (show ∀ j u, inner[j]? = some u → (w3.alloc (.cells #[] 31)).cell? ((⟨g, 0, none⟩ : Addr).add j) = some u from fun j u hu => keepc hW (ho.cells (g := g) rfl j u hu))
                    have HLen := hid (show inner.length = X.length * 5 from ho.1)
                    have HOne := hid (own_oneCell hcc)
                    have HCC := hid hcc
                    have HW := hid hW
                    clear ho hcc hnil hW
                    go_wp2_with (at_builtin; refine wpList_append_lies _ rfl _ _ 44 rfl w.heap.size 31 i0 (.agg #[.int .i64 0, .int .i64 0, .int .i64 0, .slice none 0 0, .slice none 0 0]) 5 72 Try.underlying44 HI.out hz0 hz1 hz2 rfl (by decide) (.slice (some ⟨w3.heap.size, 0, none⟩) 0 0) 0 [] ?c1 HMade.out ⟨g, 0, none⟩ X.length cp inner ?c2 HLen.out HNews.out HOne.out hX0 ?c5 ?c6 ?c7 (w3.heap.size + 1) ?c8 ?_; (case c1 => rfl); (case c2 => rfl); (case c5 => unfold maxLen; omega); (case c6 => omega); (case c7 => exact Nat.le_trans s3 HW.out.size); (case c8 => simp); intro g' cp' w7 hown hgrow hat hlt; rw [Nat.zero_add, List.nil_append] at hown; rw [Nat.zero_add]; have hb7 : Below w3.heap.size w3 w7 := HW.out.grown hgrow HW.out.size (fun x hx => by simp [Value.ownBlock] at hx; omega); have HB7 := hid (HB3.out.trans (hb7.mono s3)); have HRun7 := hid (HM.out.done (by omega) hb7 ⟨inner, hown, HCC.out.move (Fr.of_below hb7)⟩ (fun x hx => by simp [Value.ownBlock] at hx hat; omega)); clear hown hgrow hat hlt hb7)
                    go_meet
                    exact ⟨HB7, HRun7⟩
                · go_wp2_with fail
                  go_meet
                  exact ⟨HB, HRun.out.more⟩
              case rest =>
                obtain ⟨HB2, HRun2⟩ := hcut
                clear HB HRun s1
                have s1 := HB2.out.size
                go_upto_region 17 with fail
                go_cut [90] (fun t wx => wc = wx ∧ ∃ b : Bool, t = .bool b ∧ Box (b = true → j < len' ∧ (f j).tmod 3 = 0))
                case first =>
                  by_cases hl : j < len'
                  · have hl' : (j : Int) < len' := by omega
                    obtain ⟨x, rfl, hx1, hx2, hx3, hx4⟩ := HR.out.at_ j hl
                    have hx5 := (HB2.out.cell (p := x.add j) (by rw [add_block]; exact hx1)).trans hx2
                    clear hx2 hx1
                    by_cases hmod : (f j).tmod 3 = 0
                    · go_wp2_with fail
                      go_meet
                      exact ⟨rfl, true, rfl, hid fun _ => ⟨hl, hmod⟩⟩
                    · go_wp2_with fail
                      go_meet
                      exact ⟨rfl, ((f j).tmod 3 == 0), rfl, hid fun e => ⟨hl, by simpa using e⟩⟩
                  · have hl' : (len' : Int) ≤ j := by omega
                    go_wp2_with fail
                    go_meet
                    exact ⟨rfl, false, rfl, hid fun e => by cases e⟩
                case rest =>
                  obtain ⟨rfl, t, rfl, Hb⟩ := hcut
                  have hx : cs[j]? = some (cs[j]'(by rw [HL.out]; exact hlt)) := List.getElem?_eq_getElem (by rw [HL.out]; exact hlt)
                  generalize cs[j]'(by rw [HL.out]; exact hlt) = c at hx
                  obtain ⟨b, o, rfl, A1, n1, p1, A2, n2, p2, a0, a1, a2, a3, a4, ar⟩ := HC.out.at_ j c hx
                  have HE := hid (CellIs.mk a0 a1 a2 a3 a4 ar)
                  have HSc := hid (show c.small by have := HSm.out j c hx; exact ⟨by omega, by omega⟩)
                  clear a0 a1 a2 a3 a4 ar hx
                  cases t
                  case false =>
                    obtain ⟨a0, a1, a2, a3, a4, ar⟩ := HE.out.low HB2.out
                    go_wp2_with fail
                    refine (HRun2.out.alloc s1 (by omega) (by omega) ar HSc.out).mono ?_
                    rintro e w3 ⟨rfl, hR3, hb3⟩
                    have HB3 := hid (HB2.out.trans hb3)
                    have s3 := HB3.out.size
                    clear a0 a1 a2 a3 a4 ar hb3
                    obtain ⟨a0, a1, a2, a3, a4, ar⟩ := HE.out.low HB3.out
                    have hbW := (Below.refl w3.heap.size w3).alloc (Nat.le_refl _) (.cells #[.int .i64 c.kind, .int .i64 c.a, .int .i64 c.b, .slice A1 n1 p1, .slice A2 n2 p2] 31)
                    have HBW := hid (HB3.out.trans (hbW.mono s3))
                    obtain ⟨inner, ho, -, hpush⟩ := (hR3.below hbW).row (c := c)
                    have HOwn := hid ho
                    have HPush := hid hpush
                    have HNews := hid (World.news_of_block (heap_alloc_new w3 (.cells #[.int .i64 c.kind, .int .i64 c.a, .int .i64 c.b, .slice A1 n1 p1, .slice A2 n2 p2] 31)))
                    have HRW := hid (ar.move (Fr.of_below hbW))
                    clear hR3 hbW ho hpush ar
                    go_wp2_with (at_builtin; refine wpList_append_lies _ rfl _ _ 44 rfl w.heap.size 31 i0 (.agg #[.int .i64 0, .int .i64 0, .int .i64 0, .slice none 0 0, .slice none 0 0]) 5 72 Try.underlying44 HI.out hz0 hz1 hz2 rfl (by decide) u9 X.length inner ?c1 HOwn.out ⟨w3.heap.size, 0, none⟩ 1 1 [.int .i64 c.kind, .int .i64 c.a, .int .i64 c.b, .slice A1 n1 p1, .slice A2 n2 p2] ?c2 rfl ?c3 ?c4 (by decide) ?c5 ?c6 ?c7 (w3.heap.size + 1) ?c8 ?_; (case c1 => rfl); (case c2 => rfl); (case c3 => exact HNews.out); (case c4 => simp [Value.oneCell']); (case c5 => unfold maxLen; omega); (case c6 => omega); (case c7 => exact HBW.out.size); (case c8 => simp); intro g' cp' w5 hown hgrow hat hlt5; have hp := HPush.out w5 g' cp' _ hgrow hown (hat.imp id (fun e => by simp; omega)) ⟨_, _, rfl, HRW.out.k, HRW.out.v⟩ HBW.out.size; have HR5 := hid hp.1; have HB5 := hid (HBW.out.trans hp.2); clear hown hgrow hat hlt5 hp a0 a1 a2 a3 a4)
                    refine (err_c _ _).mono ?_
                    rintro e w8 ⟨rfl, rfl⟩
                    have s5 := HB5.out.size
                    go_wp2_with fail
                    refine (HR5.out.load_no s5 (k := ((X.length : Int) + 1) + 1) (by omega) (.inr (by simp only [List.length_append, List.length_cons, List.length_nil]; omega))).mono ?_
                    rintro e w6 ⟨B1, q1, r1, B2, q2, r2, rfl, hb6⟩
                    have s6 := hb6.size
                    have hb6' := hb6.alloc s6 (.cells #[.int .i64 0, .int .i64 0, .int .i64 0, .slice B1 q1 r1, .slice B2 q2 r2] 31)
                    have HB6 := hid (HB5.out.trans (hb6'.mono s5))
                    have HR6 := hid (HR5.out.below hb6')
                    clear hb6 hb6'
                    go_wp2_with fail
                    generalize (w6.alloc (.cells #[.int .i64 0, .int .i64 0, .int .i64 0, .slice B1 q1 r1, .slice B2 q2 r2] 31)) = w6' at HB6 HR6 ⊢
                    have s6' := HB6.out.size
                    refine (HR6.out.load_no s6' (k := 0) (by omega) (.inl (by omega))).mono ?_
                    rintro e w7 ⟨B3, q3, r3, B4, q4, r4, rfl, hb7⟩
                    have s7 := hb7.size
                    have hb7' := hb7.alloc s7 (.cells #[.int .i64 0, .int .i64 0, .int .i64 0, .slice B3 q3 r3, .slice B4 q4 r4] 31)
                    have HB7 := hid (HB6.out.trans (hb7'.mono s6'))
                    have HR7 := hid (HR6.out.below hb7')
                    clear hb7 hb7'
                    go_wp2_with fail
                    refine (err_c _ _).mono ?_
                    rintro e w8 ⟨rfl, rfl⟩
                    go_wp2_with fail
                    refine (err_c _ _).mono ?_
                    rintro e w8 ⟨rfl, rfl⟩
                    go_wp2_with fail
                    refine (HR7.out.hlen (n := ((X.length : Int) + 1)) (by simp only [List.length_append, List.length_cons, List.length_nil]; omega)).mono ?_
                    rintro e w8 ⟨rfl, rfl⟩
                    go_wp2_with fail
                    go_roundw
                    case rel => exact ⟨j + 1, X ++ [c], by omega, by go_num, HB7, HR7, by simp; omega⟩
                    case measure => simp [intOf]; omega
                  case true =>
                    obtain ⟨hl, hmod⟩ := Hb.out rfl
                    have hl' : (j : Int) < len' := by omega
                    obtain ⟨x, rfl, hx1, hx2, hx3, hx4⟩ := HR.out.at_ j hl
                    have hx5 := (HB2.out.cell (p := x.add j) (by rw [add_block]; exact hx1)).trans hx2
                    have hne : f j ≠ -9223372036854775808 := by
                      intro e
                      rw [e] at hmod
                      exact absurd hmod (by decide)
                    generalize f j = y at hx5 hne hx3 hx4
                    obtain ⟨Av, cpv, rfl, -, -⟩ := HRun2.out.want
                    obtain ⟨a0, a1, a2, a3, a4, ar⟩ := HE.out.low HB2.out
                    clear hx1 hx2 hmod
                    by_cases h1 : 1 ≤ y
                    · by_cases h2 : y ≤ (X.length : Int)
                      · obtain ⟨z, rfl⟩ : ∃ z : Nat, y = (z : Int) + 1 := ⟨(y - 1).toNat, by omega⟩
                        have hz : z < X.length := by omega
                        have hz' : (z : Int) < (X.length : Nat) := by omega
                        go_wp2_with fail
                        refine (HRun2.out.store s1 (by omega) (k := (z : Int) + 1) h1 (by omega) (by omega) ar HSc.out).mono ?_
                        rintro e w3 ⟨rfl, hR3, hb3⟩
                        rw [show ((z : Int) + 1 - 1).toNat = z by omega] at hR3
                        have HB3 := hid (HB2.out.trans hb3)
                        have s3 := HB3.out.size
                        clear a0 a1 a2 a3 a4 ar hb3 hx5
                        obtain ⟨a0, a1, a2, a3, a4, ar⟩ := HE.out.low HB3.out
                        obtain ⟨g, rfl, hso, hfz, hr4, hb4⟩ := hR3.put s3 hz ar
                        obtain ⟨v0, d0⟩ := Option.isSome_iff_exists.1 (hso 0 (by omega))
                        obtain ⟨v1, d1⟩ := Option.isSome_iff_exists.1 (hso 1 (by omega))
                        obtain ⟨v2, d2⟩ := Option.isSome_iff_exists.1 (hso 2 (by omega))
                        obtain ⟨v3, d3⟩ := Option.isSome_iff_exists.1 (hso 3 (by omega))
                        obtain ⟨v4, d4⟩ := Option.isSome_iff_exists.1 (hso 4 (by omega))
                        rw [Nat.add_zero] at d0
                        have HR5 := hid hr4
                        have HB5 := hid (HB3.out.trans hb4)
                        clear hR3 hr4 hb4 hso ar
                        go_wp2_with fail
                        refine (err_c _ _).mono ?_
                        rintro e w8 ⟨rfl, rfl⟩
                        go_wp2_with fail
                        have s5 := HB5.out.size
                        clear a0 a1 a2 a3 a4 d0 d1 d2 d3 d4 hfz
                        generalize (((((w8.setCell ⟨g, z * 5, none⟩ (.int .i64 c.kind)).setCell ⟨g, z * 5 + 1, none⟩ (.int .i64 c.a)).setCell ⟨g, z * 5 + 2, none⟩ (.int .i64 c.b)).setCell ⟨g, z * 5 + 3, none⟩ (.slice A1 n1 p1)).setCell ⟨g, z * 5 + 4, none⟩ (.slice A2 n2 p2)) = w5 at HR5 HB5 s5 ⊢
                        refine (HR5.out.load_no s5 (k := (X.length : Int) + 1) (by omega) (.inr (by have q := set_len X z c; omega))).mono ?_
                        rintro e w6 ⟨B1, q1, r1, B2, q2, r2, rfl, hb6⟩
                        have s6 := hb6.size
                        have hb6' := hb6.alloc s6 (.cells #[.int .i64 0, .int .i64 0, .int .i64 0, .slice B1 q1 r1, .slice B2 q2 r2] 31)
                        have HB6 := hid (HB5.out.trans (hb6'.mono s5))
                        have HR6 := hid (HR5.out.below hb6')
                        clear hb6 hb6'
                        go_wp2_with fail
                        generalize (w6.alloc (.cells #[.int .i64 0, .int .i64 0, .int .i64 0, .slice B1 q1 r1, .slice B2 q2 r2] 31)) = w6' at HB6 HR6 ⊢
                        have s6' := HB6.out.size
                        refine (HR6.out.load_no s6' (k := 0) (by omega) (.inl (by omega))).mono ?_
                        rintro e w7 ⟨B3, q3, r3, B4, q4, r4, rfl, hb7⟩
                        have s7 := hb7.size
                        have hb7' := hb7.alloc s7 (.cells #[.int .i64 0, .int .i64 0, .int .i64 0, .slice B3 q3 r3, .slice B4 q4 r4] 31)
                        have HB7 := hid (HB6.out.trans (hb7'.mono s6'))
                        have HR7 := hid (HR6.out.below hb7')
                        clear hb7 hb7'
                        go_wp2_with fail
                        refine (err_c _ _).mono ?_
                        rintro e w8 ⟨rfl, rfl⟩
                        go_wp2_with fail
                        refine (err_c _ _).mono ?_
                        rintro e w8 ⟨rfl, rfl⟩
                        go_wp2_with fail
                        refine (HR7.out.hlen (n := (X.length : Int)) (by have q := set_len X z c; omega)).mono ?_
                        rintro e w8 ⟨rfl, rfl⟩
                        go_wp2_with fail
                        go_roundw
                        case rel => exact ⟨j + 1, X.set z c, by omega, by go_num, HB7, HR7, by have q := set_len X z c; omega⟩
                        case measure => simp [intOf]; omega
                      · have h2' : (X.length : Int) < y := by omega
                        go_wp2_with fail
                        refine (HRun2.out.store_no (k := y) (by omega) (by omega)).mono ?_
                        rintro e w3 ⟨rfl, hb3⟩
                        have HR5 := hid (HRun2.out.below hb3)
                        have HB5 := hid (HB2.out.trans (hb3.mono s1))
                        have s5 := HB5.out.size
                        clear hb3 a0 a1 a2 a3 a4 ar hx5
                        go_wp2_with fail
                        refine (err_c _ _).mono ?_
                        rintro e w8 ⟨rfl, rfl⟩
                        go_wp2_with fail
                        refine (HR5.out.load_no s5 (k := (X.length : Int) + 1) (by omega) (.inr (by omega))).mono ?_
                        rintro e w6 ⟨B1, q1, r1, B2, q2, r2, rfl, hb6⟩
                        have s6 := hb6.size
                        have hb6' := hb6.alloc s6 (.cells #[.int .i64 0, .int .i64 0, .int .i64 0, .slice B1 q1 r1, .slice B2 q2 r2] 31)
                        have HB6 := hid (HB5.out.trans (hb6'.mono s5))
                        have HR6 := hid (HR5.out.below hb6')
                        clear hb6 hb6'
                        go_wp2_with fail
                        generalize (w6.alloc (.cells #[.int .i64 0, .int .i64 0, .int .i64 0, .slice B1 q1 r1, .slice B2 q2 r2] 31)) = w6' at HB6 HR6 ⊢
                        have s6' := HB6.out.size
                        refine (HR6.out.load_no s6' (k := 0) (by omega) (.inl (by omega))).mono ?_
                        rintro e w7 ⟨B3, q3, r3, B4, q4, r4, rfl, hb7⟩
                        have s7 := hb7.size
                        have hb7' := hb7.alloc s7 (.cells #[.int .i64 0, .int .i64 0, .int .i64 0, .slice B3 q3 r3, .slice B4 q4 r4] 31)
                        have HB7 := hid (HB6.out.trans (hb7'.mono s6'))
                        have HR7 := hid (HR6.out.below hb7')
                        clear hb7 hb7'
                        go_wp2_with fail
                        refine (err_c _ _).mono ?_
                        rintro e w8 ⟨rfl, rfl⟩
                        go_wp2_with fail
                        refine (err_c _ _).mono ?_
                        rintro e w8 ⟨rfl, rfl⟩
                        go_wp2_with fail
                        refine (HR7.out.hlen (n := (X.length : Int)) (by omega)).mono ?_
                        rintro e w8 ⟨rfl, rfl⟩
                        go_wp2_with fail
                        go_roundw
                        case rel => exact ⟨j + 1, X, by omega, by go_num, HB7, HR7, by omega⟩
                        case measure => simp [intOf]; omega
                    · have h1' : y < 1 := by omega
                      go_wp2_with fail
                      refine (HRun2.out.store_no (k := y) (by omega) (by omega)).mono ?_
                      rintro e w3 ⟨rfl, hb3⟩
                      have HR5 := hid (HRun2.out.below hb3)
                      have HB5 := hid (HB2.out.trans (hb3.mono s1))
                      have s5 := HB5.out.size
                      clear hb3 a0 a1 a2 a3 a4 ar hx5
                      go_wp2_with fail
                      refine (err_c _ _).mono ?_
                      rintro e w8 ⟨rfl, rfl⟩
                      go_wp2_with fail
                      refine (HR5.out.load_no s5 (k := (X.length : Int) + 1) (by omega) (.inr (by omega))).mono ?_
                      rintro e w6 ⟨B1, q1, r1, B2, q2, r2, rfl, hb6⟩
                      have s6 := hb6.size
                      have hb6' := hb6.alloc s6 (.cells #[.int .i64 0, .int .i64 0, .int .i64 0, .slice B1 q1 r1, .slice B2 q2 r2] 31)
                      have HB6 := hid (HB5.out.trans (hb6'.mono s5))
                      have HR6 := hid (HR5.out.below hb6')
                      clear hb6 hb6'
                      go_wp2_with fail
                      generalize (w6.alloc (.cells #[.int .i64 0, .int .i64 0, .int .i64 0, .slice B1 q1 r1, .slice B2 q2 r2] 31)) = w6' at HB6 HR6 ⊢
                      have s6' := HB6.out.size
                      refine (HR6.out.load_no s6' (k := 0) (by omega) (.inl (by omega))).mono ?_
                      rintro e w7 ⟨B3, q3, r3, B4, q4, r4, rfl, hb7⟩
                      have s7 := hb7.size
                      have hb7' := hb7.alloc s7 (.cells #[.int .i64 0, .int .i64 0, .int .i64 0, .slice B3 q3 r3, .slice B4 q4 r4] 31)
                      have HB7 := hid (HB6.out.trans (hb7'.mono s6'))
                      have HR7 := hid (HR6.out.below hb7')
                      clear hb7 hb7'
                      go_wp2_with fail
                      refine (err_c _ _).mono ?_
                      rintro e w8 ⟨rfl, rfl⟩
                      go_wp2_with fail
                      refine (err_c _ _).mono ?_
                      rintro e w8 ⟨rfl, rfl⟩
                      go_wp2_with fail
                      refine (HR7.out.hlen (n := (X.length : Int)) (by omega)).mono ?_
                      rintro e w8 ⟨rfl, rfl⟩
                      go_wp2_with fail
                      go_roundw
                      case rel => exact ⟨j + 1, X, by omega, by go_num, HB7, HR7, by omega⟩
                      case measure => simp [intOf]; omega
            · obtain rfl : j = k := by omega
              obtain ⟨Av, cpv, rfl, hXm, hrow⟩ := HRun.out.want
              have HXm := hid hXm
              have HRow := hid hrow
              clear hXm hrow
              rcases HRun.out.kind with ⟨rfl, rfl⟩ | ⟨a', rfl⟩
              · go_wp2_with fail
                refine (HRun.out.cells s1 (by omega)).mono ?_
                rintro e w3 ⟨A3, cp3, rfl, hb3, hr3⟩
                have HB3 := hid (HB.out.trans (hb3.mono s1))
                have HRow3 := hid (HRow.out.below hb3)
                have HR3 := hid hr3
                clear hb3 hr3
                go_wp2_with fail
                refine (sameCells_c HXm.out HR3.out HRow3.out).mono ?_
                rintro e w4 ⟨rfl, hb4⟩
                have HB4 := hid (HB3.out.trans (hb4.mono HB3.out.size))
                clear hb4
                go_wp2_with fail
                refine (hlen_nil _).mono ?_
                rintro e w9 ⟨rfl, hw9⟩
                obtain rfl := hw9
                go_wp2_with fail
                refine (hcells_nil _).mono ?_
                rintro e wa ⟨rfl, hba⟩
                have HBA := hid (HB4.out.trans (hba.mono HB4.out.size))
                clear hba
                go_wp2_with fail
                refine (hmark_nil _).mono ?_
                rintro e w9 ⟨rfl, hw9⟩
                obtain rfl := hw9
                go_wp2_with fail
                refine (hawake_c _).mono ?_
                rintro e wb ⟨rfl, hbb⟩
                have HBB := hid (HBA.out.trans (hbb.mono HBA.out.size))
                clear hbb
                go_wp2_with fail
                go_ret
                exact ⟨rfl, HBB.out⟩
              · obtain ⟨Y, Au, cpu, rfl, hY, hrowu, hcall⟩ := HRun.out.marked s1
                have HCall := hid hcall
                have HRowu := hid hrowu
                clear hcall hrowu
                go_wp2_with fail
                refine (HRun.out.cells s1 (by omega)).mono ?_
                rintro e w3 ⟨A3, cp3, rfl, hb3, hr3⟩
                have HB3 := hid (HB.out.trans (hb3.mono s1))
                have HRow3 := hid (HRow.out.below hb3)
                have HR3 := hid hr3
                have HU3 := hid hb3
                clear hb3 hr3
                go_wp2_with fail
                refine (sameCells_c HXm.out HR3.out HRow3.out).mono ?_
                rintro e w4 ⟨rfl, hb4⟩
                have HB4 := hid (HB3.out.trans (hb4.mono HB3.out.size))
                have HU4 := hid (HU3.out.trans (hb4.mono HU3.out.size))
                clear hb4
                go_wp2_with fail
                refine (HCall.out w4 HU4.out).mono ?_
                rintro e w5 ⟨A5, cp5, rfl, hb5, hr5⟩
                have HB5 := hid (HB4.out.trans (hb5.mono HB4.out.size))
                have HRow5 := hid (HRowu.out.below (HU4.out.trans (hb5.mono HU4.out.size)))
                have HR5 := hid hr5
                clear hb5 hr5
                go_wp2_with fail
                refine (sameCells_c (by unfold maxLen; omega) HR5.out HRow5.out).mono ?_
                rintro e w6 ⟨rfl, hb6⟩
                have HB6 := hid (HB5.out.trans (hb6.mono HB5.out.size))
                clear hb6
                go_wp2_with fail
                refine (hlen_nil _).mono ?_
                rintro e w9 ⟨rfl, hw9⟩
                obtain rfl := hw9
                go_wp2_with fail
                refine (hcells_nil _).mono ?_
                rintro e wa ⟨rfl, hba⟩
                have HBA := hid (HB6.out.trans (hba.mono HB6.out.size))
                clear hba
                go_wp2_with fail
                refine (hmark_nil _).mono ?_
                rintro e w9 ⟨rfl, hw9⟩
                obtain rfl := hw9
                go_wp2_with fail
                refine (hawake_c _).mono ?_
                rintro e wb ⟨rfl, hbb⟩
                have HBB := hid (HBA.out.trans (hbb.mono HBA.out.size))
                clear hbb
                go_wp2_with fail
                go_ret
                exact ⟨rfl, HBB.out⟩
end Go.Proofs.Ytljbdmmidajmdaa.Pg
