/- What a proof further on needs (part u). -/
import Derived.Laws.Concat
import Derived.Test.YticbjhicjegfoaaKc
import Derived.Test.YticbjhicjegfoaaKg
import Derived.Test.YticbjhicjegfoaaKj
import Derived.Test.YticbjhicjegfoaaKn
import Derived.Test.YticbjhicjegfoaaKo
import Derived.Test.YticbjhicjegfoaaKp
import Derived.Test.YticbjhicjegfoaaKq
import Derived.Test.YticbjhicjegfoaaKr
import Derived.Test.YticbjhicjegfoaaKs
import Derived.Test.YticbjhicjegfoaaKt
set_option linter.unusedVariables false
namespace Go.Proofs.Yticbjhicjegfoaa.Q
open Go.RowKit
open Go.Proofs.YticbjhicjegfoaaW.PrintWords
theorem good (n : Nat) : Good n := by
  induction n using Nat.strongRecOn with
  | _ n ih =>
    exact {
      list := by intros; exact list_w ih (by assumption) (by assumption)
      commas := by intros; exact commas_w ih (by assumption) (by assumption)
      block := by intros; exact block_w ih (by assumption) (by assumption)
      stmt := by intros; exact stmt_w ih (by assumption) (by assumption)
      inner := by intros; exact inner_w ih (by assumption) (by assumption)
      one := by intros; exact one_w ih (by assumption) (by assumption)
      fn := by intros; exact fn_w ih (by assumption) (by assumption)
      e := by intros; exact e_w ih (by assumption) (by assumption)
      assign := by intros; exact assign_w ih (by assumption) (by assumption)
      cond := by intros; exact cond_w ih (by assumption) (by assumption)
      binary := by intros; exact binary_w (by assumption) ih (by assumption) (by assumption)
      unary := by intros; exact unary_w ih (by assumption) (by assumption)
      post := by intros; exact post_w ih (by assumption) (by assumption)
      first := by intros; exact first_w ih (by assumption) (by assumption)
      obj := by intros; exact obj_w ih (by assumption) (by assumption) }
/-- What Parse leaves: nodes in blocks of its own. -/
def Parsed (w : World) (T : Tree) (e : Ending) (w' : World) : Prop :=
  ∃ ok v, e = .returned (.agg #[v, .int .i64 T.at_, .bool T.ok]) ∧ Kd.N kNd 38 w' 0 ok v T.l ∧ (∀ k, ok k → w.heap.size ≤ k ∧ k < w'.heap.size) ∧ Below w.heap.size w w'
set_option maxHeartbeats 3200000 in
set_option maxRecDepth 100000 in
theorem parse_c {n : Nat} {src : ByteArray} {T : Tree} (hr : parseN n src = some T) (w : World) : Calls Try.prog 16 #[.string src] w (Parsed w T) := by
  unfold parseN at hr
  have hb0 : Below w.heap.size w (w.alloc (.cells #[.slice none 0 0, .int .i64 0, .bool false] 31)) := (Below.refl _ _).alloc (Nat.le_refl _) _
  have rb := heap_alloc_new w (.cells #[.slice none 0 0, .int .i64 0, .bool false] 31)
  split at hr
  · rename_i hs
    injection hr with hr
    subst hr
    have hs' : (4096 : Int) < (src.size : Int) := by omega
    have HB := hid hb0
    clear hb0 rb
    go_enter Try.func16, Try.ntmps16
    go_wp2_with fail
    exact bodyPost_ret (v := .agg #[.slice none 0 0, .int .i64 0, .bool false]) (by simp [results, Try.results16, go_sem]) rfl ⟨fun _ => False, _, rfl, Kd.R_N (Kd.R_nil _ _ _ _ _), fun _ h => h.elim, HB.out⟩
  · rename_i hs
    obtain ⟨⟨x1, x2, x3⟩, hx, hr2⟩ := Option.bind_eq_some_iff.1 hr
    clear hr
    dsimp only at hr2
    have hs' : ¬ (4096 : Int) < (src.size : Int) := by omega
    have hs1 : src.size ≤ 4096 := by omega
    have hfit := tok_fits src 0 (Nat.zero_le _)
    have htk := tok_c (w := w.alloc (.cells #[.slice none 0 0, .int .i64 0, .bool false] 31)) src 0 hs1 (Nat.zero_le _)
    have HTK := hid htk
    have HB := hid hb0
    have HX := hid hx
    have HR := hid hr2
    have HFIT := hid (And.intro hs1 hfit.2.2.1)
    have HRB := hid rb
    clear htk hb0 hx hr2 hfit hs1 rb hs
    go_enter Try.func16, Try.ntmps16
    go_wp2_with fail
    refine HTK.out.mono ?_
    rintro e w1 ⟨rfl, hb1⟩
    obtain ⟨ok0, hok0⟩ : ∃ ok0 : Nat → Prop, ok0 = fun _ => False := ⟨_, rfl⟩
    have hb2 : Below w.heap.size w w1 := HB.out.trans (hb1.mono HB.out.size)
    have rb1 : w1.heap[w.heap.size]? = some (.cells #[.slice none 0 0, .int .i64 0, .bool false] 31 (0, 0)) := (hb1.block _ (by simp)).trans HRB.out
    have hr1 : w.heap.size < w1.heap.size := (Array.getElem?_eq_some_iff.1 rb1).1
    have hps : (Obj.cells #[.string src, .int .i64 (tok src 0).1.kind, .string (tok src 0).1.text, .int .i64 (tok src 0).1.num, .int .i64 (tok src 0).1.at_, .bool (tok src 0).1.line, .int .i64 (tok src 0).2, .slice none 0 0, .int .i64 0, .bool false] 64) = .cells (psRow (start src) (.slice none 0 0)) 64 := rfl
    have HPI : Box (PI (w1.alloc (.cells (psRow (start src) (.slice none 0 0)) 64)) w1.heap.size ok0 (.slice none 0 0) (start src)) := hid ⟨heap_alloc_new _ _, Kd.R_N (Kd.R_nil _ _ _ _ _), by rw [hok0]; exact fun h => h, HFIT.out, by rw [hok0]; exact fun _ h => h.elim⟩
    have HB2 := hid (hb2.trans (((Below.refl w1.heap.size w1).alloc (Nat.le_refl _) (.cells (psRow (start src) (.slice none 0 0)) 64)).mono hb2.size))
    have HRB2 := hid ((heap_alloc_old w1 (.cells (psRow (start src) (.slice none 0 0)) 64) hr1).trans rb1)
    have HR1 := hid hr1
    have HOK := hid hok0
    have HPS := hid hps
    clear hb1 hb2 rb1 hr1 HRB HTK hok0 hps HB
    go_wp2_with fail
    rw [HPS.out]
    generalize (w1.alloc (.cells (psRow (start src) (.slice none 0 0)) 64)) = W at HPI HB2 HRB2 ⊢
    have H0 := hid (At.start HPI.out)
    refine ((good n).list HX.out H0.out.p).mono ?_
    rintro e w2 ⟨val, ok2, v2, rfl, h2, l2⟩
    obtain ⟨A2, c2, rfl⟩ := l2.slice
    have hne : w.heap.size ≠ w1.heap.size := by have := HR1.out; omega
    have rb2 : w2.heap[w.heap.size]? = some (.cells #[.slice none 0 0, .int .i64 0, .bool false] 31 (0, 0)) := h2.kp.heap HRB2.out (by rw [HOK.out]; exact fun q => q.elim hne (fun h => h))
    have hwW : w1.heap.size < W.heap.size := HPI.out.lt
    have hbel : Below w.heap.size w w2 := HB2.out.trans (h2.kp.to_below HB2.out.size (by rw [HOK.out]; exact fun k q => q.elim (fun e => by have := HR1.out; omega) (fun h => h.elim)))
    have c9 := h2.p.c9
    have hr := HR.out
    clear HR
    have H2 := hid h2
    have L2 := hid l2
    have HBEL := hid hbel
    have HNE := hid hne
    clear h2 l2 hbel HX
    split at hr
    · rename_i hb
      injection hr with hr
      subst hr
      rw [hb] at c9
      have c4 := H2.out.p.c4
      have t0 := (cell_of_row _ _ 0 _ _ _ rb2).trans (b := some (Value.slice none 0 0)) rfl
      have t1 := (cell_of_row _ _ 1 _ _ _ rb2).trans (b := some (Value.int .i64 0)) rfl
      have t2 := (cell_of_row _ _ 2 _ _ _ rb2).trans (b := some (Value.bool false)) rfl
      have f0 : w2.frozen? ⟨w.heap.size, 0, none⟩ = false := by simp [World.frozen?, rb2]
      have f1 : w2.frozen? ⟨w.heap.size, 1, none⟩ = false := by simp [World.frozen?, rb2]
      have f2 : w2.frozen? ⟨w.heap.size, 2, none⟩ = false := by simp [World.frozen?, rb2]
      clear hb rb2
      go_wp2_with fail
      refine bodyPost_ret (v := .agg #[.slice none 0 0, .int .i64 x3.t.at_, .bool false]) (by simp [results, Try.results16, go_sem, t0, t1, t2]) rfl ⟨fun _ => False, _, rfl, Kd.R_N (Kd.R_nil _ _ _ _ _), fun _ h => h.elim, ?_⟩
      exact ((HBEL.out.setCell (Nat.le_refl _) _).setCell (Nat.le_refl _) _).setCell (Nat.le_refl _) _
    · rename_i hb
      rw [show x3.bad = false by simpa using hb] at c9
      obtain ⟨⟨y1, y3⟩, hy, hr2⟩ := Option.map_eq_some_iff.1 hr
      have HY := hid hy
      obtain rfl : (⟨y3.l, 0, true⟩ : Tree) = T := hr2
      clear hr hy hb
      go_wp2_with fail
      refine (put_row H2.out L2.out HY.out).mono ?_
      rintro e w3 ⟨rfl, hN⟩
      obtain ⟨ok3, v3, h3, k3, s3⟩ := hN
      have rb3 : w3.heap[w.heap.size]? = some (.cells #[.slice none 0 0, .int .i64 0, .bool false] 31 (0, 0)) := k3.heap HRB2.out (by rw [HOK.out]; exact fun q => q.elim HNE.out (fun h => h))
      have hbel3 : Below w.heap.size w w3 := HB2.out.trans (k3.to_below HB2.out.size (by rw [HOK.out]; exact fun k q => q.elim (fun e => by have := HR1.out; omega) (fun h => h.elim)))
      have hnr : ∀ k, ok3 k → k ≠ w.heap.size := fun k hk e => by
        have := s3 k hk
        rw [HOK.out] at this
        rcases this with h | h
        · exact h
        · have := HR1.out; omega
      have hnew : ∀ k, ok3 k → w.heap.size ≤ k ∧ k < w3.heap.size := fun k hk => ⟨by
        have := s3 k hk
        rw [HOK.out] at this
        rcases this with h | h
        · exact h.elim
        · have := HR1.out; omega, h3.lo k hk⟩
      have c7 := h3.c7
      have t0 := (cell_of_row _ _ 0 _ _ _ rb3).trans (b := some (Value.slice none 0 0)) rfl
      have t1 := (cell_of_row _ _ 1 _ _ _ rb3).trans (b := some (Value.int .i64 0)) rfl
      have t2 := (cell_of_row _ _ 2 _ _ _ rb3).trans (b := some (Value.bool false)) rfl
      have f0 : w3.frozen? ⟨w.heap.size, 0, none⟩ = false := by simp [World.frozen?, rb3]
      have f1 : w3.frozen? ⟨w.heap.size, 1, none⟩ = false := by simp [World.frozen?, rb3]
      have f2 : w3.frozen? ⟨w.heap.size, 2, none⟩ = false := by simp [World.frozen?, rb3]
      obtain ⟨A3, c3, e3⟩ := Kd.N_slice h3.row
      subst e3
      have H3 := hid h3
      have HBEL3 := hid hbel3
      have HNR := hid hnr
      have HNEW := hid hnew
      clear h3 k3 s3 rb3 rb2 hbel3 hnr hnew c9 H2 L2
      go_wp2_with fail
      refine bodyPost_ret (v := .agg #[.slice A3 y3.l.length c3, .int .i64 0, .bool true]) (by simp [results, Try.results16, go_sem, t0, t1, t2]) rfl ⟨ok3, _, rfl, ?_, fun k hk => ⟨(HNEW.out k hk).1, by simpa using (HNEW.out k hk).2⟩, ?_⟩
      · have far := fun (W' : World) (i : Nat) (u : Value) (h : Kd.N kNd 38 W' 0 ok3 (.slice A3 y3.l.length c3) y3.l) => Kd.N_far (p := ⟨w.heap.size, i, none⟩) h (fun k hk => HNR.out k hk) u
        exact far _ _ _ (far _ _ _ (far _ _ _ H3.out.row))
      · exact ((HBEL3.out.setCell (Nat.le_refl _) _).setCell (Nat.le_refl _) _).setCell (Nat.le_refl _) _
end Go.Proofs.Yticbjhicjegfoaa.Q
namespace Go.Proofs.Yticbjhicjegfoaa.Q
open Go.RowKit
open Go.Proofs.YticbjhicjegfoaaW.PrintWords
theorem field_l (A : Option Addr) (n c : Nat) (a : Int) (b : Bool) (w : World) : (Instr.field 31 (.agg #[.slice A n c, .int .i64 a, .bool b]) 0).run Try.prog w = .ok (.slice A n c) w := by
  simp [Instr.field, go_sem, asAgg]
theorem lookF_lens {l : List Nd} {m k : Nat} {S S' : Lk} (h : lookF l m k S = some S') : S'.spots.length = S.spots.length ∧ S'.slots.length = S.slots.length := (lookF_open h).2
theorem looked_lens {l : List Nd} {m : Nat} {S : Lk} (h : looked m l = some S) : S.spots.length = l.length ∧ S.slots.length = l.length := by
  unfold looked at h
  dsimp only at h
  split at h
  · injection h with h; rw [← h]; simp
  · have := lookF_lens h; simpa using this
section
variable {w : World} {okl : Nat → Prop} {g cap : Nat} {l : List Nd} {m : Nat} {S : Lk}
set_option maxHeartbeats 800000 in
set_option maxRecDepth 100000 in
theorem spots_c (h : NR w okl g cap l) (hlo : ∀ k, okl k → k < w.heap.size) (hl : l.length ≤ 1048576) (hl0 : 0 < l.length) (hr : looked m l = some S) :
    Calls Try.prog 17 #[.slice (some ⟨g, 0, none⟩) l.length cap] w fun e w' => ∃ b, e = .returned (.slice (some ⟨b, 0, none⟩) l.length l.length) ∧ w'.heap[b]? = some (.cells (spCells S.spots).toArray 40 (0, 0)) ∧ Below w.heap.size w w' ∧ w.heap.size ≤ b := by
  have hc := looked_c h hlo hl hl0 hr
  have HC := hid hc
  clear h hlo hr hc
  go_enter Try.func17, Try.ntmps17
  go_wp2_with fail
  refine HC.out.mono ?_
  rintro e w1 ⟨a, b1, b2, opv, oko, rfl, hI, hb, h1, h2⟩
  have c1 := hI.c1
  dsimp only at c1
  have HI := hid hI
  have HB := hid hb
  clear hI hb
  go_wp2_with fail
  go_ret
  exact ⟨b1, rfl, HI.out.sp, HB.out, h1⟩
set_option maxHeartbeats 800000 in
set_option maxRecDepth 100000 in
theorem slots_c (h : NR w okl g cap l) (hlo : ∀ k, okl k → k < w.heap.size) (hl : l.length ≤ 1048576) (hl0 : 0 < l.length) (hr : looked m l = some S) :
    Calls Try.prog 18 #[.slice (some ⟨g, 0, none⟩) l.length cap] w fun e w' => ∃ b, e = .returned (.slice (some ⟨b, 0, none⟩) l.length l.length) ∧ w'.heap[b]? = some (.cells (slCells S.slots).toArray 3 (0, 0)) ∧ Below w.heap.size w w' ∧ w.heap.size ≤ b := by
  have hc := looked_c h hlo hl hl0 hr
  have HC := hid hc
  clear h hlo hr hc
  go_enter Try.func18, Try.ntmps18
  go_wp2_with fail
  refine HC.out.mono ?_
  rintro e w1 ⟨a, b1, b2, opv, oko, rfl, hI, hb, h1, h2⟩
  have c2 := hI.c2
  dsimp only at c2
  have HI := hid hI
  have HB := hid hb
  clear hI hb
  go_wp2_with fail
  go_ret
  exact ⟨b2, rfl, HI.out.sl, HB.out, h2⟩
/-- What is parsed, and is a program. -/
theorem parse_ok {src : ByteArray} {T : Tree} (hr : parse src = some T) (h0 : 0 < T.l.length) (w : World) : Calls Try.prog 16 #[.string src] w fun e w' =>
    ∃ okl g cap, e = .returned (.agg #[.slice (some ⟨g, 0, none⟩) T.l.length cap, .int .i64 T.at_, .bool T.ok]) ∧ NR w' okl g cap T.l ∧ (∀ k, okl k → w.heap.size ≤ k ∧ k < w'.heap.size) ∧ Below w.heap.size w w' := by
  refine (parse_c hr w).mono ?_
  rintro e w1 ⟨ok, v, rfl, hN, hn, hb⟩
  obtain ⟨g, cap, rfl, _⟩ := Kd.N_form hN h0
  exact ⟨ok, g, cap, rfl, hN, hn, hb⟩
end
end Go.Proofs.Yticbjhicjegfoaa.Q
namespace Go.Proofs.Yticbjhicjegfoaa.Q
open Go.RowKit
open Go.Proofs.YticbjhicjegfoaaW.PrintWords
theorem minL_take {x : Nat} {r : List Nat} {i : Nat} (h : i < r.length) : minL x (r.take (i + 1)) = min (minL x (r.take i)) r[i] := by
  induction r generalizing x i with
  | nil => simp at h
  | cons y r ih =>
    cases i with
    | zero => simp [minL]
    | succ i => simp only [List.take_succ_cons, minL, List.getElem_cons_succ]; exact ih (by simpa using h)
section
variable {w : World} {okb : Nat → Prop} {A : Option Addr} {c : Nat} {x : Nat} {r : List Nat}
set_option maxHeartbeats 1600000 in
set_option maxRecDepth 100000 in
theorem min_c (h : Kd.F (Kd.int .i64) w okb A (x :: r).length (ints (x :: r))) : Calls Try.prog 34 #[.slice A (x :: r).length c] w fun e w' => e = .returned (.int .i64 (minL x r)) ∧ w = w' := by
  have hlen : (x :: r).length = r.length + 1 := rfl
  have hmax : r.length + 1 ≤ 9223372036854775807 := Kd.F_max h
  have HF := hid h
  rw [hlen] at HF ⊢
  have hc := fun j (hj : j < r.length + 1) => Kd.at_int (Kd.F_now HF.out) (j : Int) (by omega) (by omega)
  obtain ⟨ad, rfl, h0⟩ := hc 0 (by omega)
  have hx : rd (ints (x :: r)) ((0 : Nat) : Int) = (x : Int) := rfl
  rw [hx] at h0
  have h0' : w.cell? ad = some (.int .i64 x) := by simpa [Addr.add] using h0
  have HC := hid (show ∀ i, (hi : i < r.length) → w.cell? (ad.add (i + 1)) = some (.int .i64 (r[i] : Nat)) from fun i hi => by
    obtain ⟨ad', e, q⟩ := hc (i + 1) (by omega)
    injection e with e
    subst e
    have hx : rd (ints (x :: r)) ((i + 1 : Nat) : Int) = (r[i] : Int) := by unfold rd ints; simp [hi]
    rw [hx, Int.toNat_natCast] at q
    exact q)
  have hn : ¬ ((r.length : Int) + 1 < 1) := by omega
  have hp : (0 : Int) < (r.length : Int) + 1 := by omega
  clear hx h0 hc HF h
  go_enter Try.func34, Try.ntmps34
  go_wp2_with fail
  clear h0'
  go_loop [3, 4] (fun u v => ∃ i : Nat, i ≤ r.length ∧ v = .int .i64 ((i : Int) + 1) ∧ u = .int .i64 (minL x (r.take i))) (fun _ v => r.length + 1 - (RowKit.intOf v).toNat)
  case atStart => exact ⟨0, Nat.zero_le _, rfl, rfl⟩
  case round =>
    obtain ⟨i, hi, rfl, rfl⟩ := hrel
    rcases Nat.lt_or_ge i r.length with hlt | hge
    · have q := HC.out i hlt
      have q' : w.cell? ⟨ad.block, ad.off + (i + 1), none⟩ = some (.int .i64 (r[i] : Nat)) := q
      have HM := hid (minL_take (x := x) hlt)
      have hlt' : (i : Int) < (r.length : Int) := by omega
      clear q
      go_wp2_with fail
      go_round
      case rel => exact ⟨i + 1, by omega, by go_num, by rw [HM.out]; congr 1; split <;> omega⟩
      case measure => simp [RowKit.intOf]; omega
    · obtain rfl : i = r.length := by omega
      have HM := hid (show minL x (r.take r.length) = minL x r by rw [List.take_length])
      go_wp2_with fail
      go_ret
      exact ⟨ret_i (by simp), rfl⟩
end
theorem lookE_ok (G : EG) : ∀ m, LookOkE G m
  | 0 => fun hr => by cases hr
  | m + 1 => lookE_c (lookE_ok G m)
section
variable {w : World} {okl : Nat → Prop} {g cap : Nat} {l : List Nd} {m : Nat} {x : Nat × Bool}
set_option maxHeartbeats 1600000 in
set_option maxRecDepth 100000 in
theorem check_c (h : NR w okl g cap l) (hlo : ∀ k, okl k → k < w.heap.size) (hl : l.length ≤ 1048576) (hl0 : 0 < l.length) (hr : checkE m l = some x) :
    Calls Try.prog 21 #[.slice (some ⟨g, 0, none⟩) l.length cap] w fun e w' => e = .returned (.tuple #[.int .i64 x.1, .bool x.2]) ∧ Below w.heap.size w w' := by
  unfold checkE at hr
  obtain ⟨S, hS, hr⟩ := Option.bind_eq_some_iff.1 hr
  obtain ⟨bad, hb, hr⟩ := Option.bind_eq_some_iff.1 hr
  have HSP := hid (fun (w : World) (h : NR w okl g cap l) (hlo : ∀ k, okl k → k < w.heap.size) => spots_c h hlo hl hl0 hS)
  have HSL := hid (fun (w : World) (h : NR w okl g cap l) (hlo : ∀ k, okl k → k < w.heap.size) => slots_c h hlo hl hl0 hS)
  have HLN := hid (looked_lens hS)
  have H := hid h
  have HLO := hid hlo
  have HR := hid hr
  have HBD := hid hb
  have hl1 : ¬ (l.length : Int) = 0 := by omega
  have hl2 : ((l.length : Int) == 0) = false := by rw [beq_eq_false_iff_ne]; omega
  have hl3 : (1 : Int) ≤ (l.length : Int) := by omega
  clear h hlo hr hb hS
  go_enter Try.func21, Try.ntmps21
  go_wp2_with fail
  refine (HSP.out _ H.out HLO.out).mono ?_
  rintro e w1 ⟨b1, rfl, hc1, hb1, hle1⟩
  have HC1 := hid hc1
  have HB1 := hid hb1
  have HL1 := hid hle1
  clear hc1 hb1 hle1
  go_wp2_with fail
  refine (HSL.out _ (H.out.below HB1.out) (fun k hk => Nat.lt_of_lt_of_le (HLO.out k hk) HB1.out.size)).mono ?_
  rintro e w2 ⟨b2, rfl, hc2, hb2, hle2⟩
  have hlt1 := (Array.getElem?_eq_some_iff.1 HC1.out).1
  have hlt2 := (Array.getElem?_eq_some_iff.1 hc2).1
  have hbk := (Below.refl w2.heap.size w2).alloc (Nat.le_refl _) (.cells #[.slice (some ⟨g, 0, none⟩) l.length cap, .slice (some ⟨b1, 0, none⟩) l.length l.length, .slice (some ⟨b2, 0, none⟩) l.length l.length, .slice none 0 0] 79)
  have hb3 := (HB1.out.trans (hb2.mono HB1.out.size)).trans (hbk.mono (by have := HB1.out.size; have := hb2.size; omega))
  have hI : EI ⟨w2.heap.size, g, cap, b1, b2, okl, l, S.spots, S.slots⟩ (w2.alloc (.cells #[.slice (some ⟨g, 0, none⟩) l.length cap, .slice (some ⟨b1, 0, none⟩) l.length l.length, .slice (some ⟨b2, 0, none⟩) l.length l.length, .slice none 0 0] 79)) (fun _ => False) (.slice none 0 0) [] :=
    ⟨heap_alloc_new _ _, H.out.below hb3, (hbk.block _ (Nat.lt_of_lt_of_le hlt1 hb2.size)).trans ((hb2.block _ hlt1).trans HC1.out), (hbk.block _ hlt2).trans hc2, Kd.N_nil _ _ _ _ _, HLN.out, fun k hk => hk.elim, fun k hk => by
      have := HLO.out k hk; have := HB1.out.size; have := hb2.size; exact ⟨by show k ≠ w2.heap.size; omega, by simp; omega⟩, by have := hb2.size; exact ⟨by show w2.heap.size ≠ b1; omega, by show w2.heap.size ≠ b2; omega⟩⟩
  have HI := hid hI
  have HB := hid hb3
  have HA := hid (show w.heap.size ≤ w2.heap.size from Nat.le_trans HB1.out.size hb2.size)
  clear hI hb3 hbk hc2 hb2 hle2 hlt1 hlt2 HC1 HSP HSL
  go_upto_region 4 with fail
  generalize hW : (w2.alloc (.cells #[.slice (some ⟨g, 0, none⟩) l.length cap, .slice (some ⟨b1, 0, none⟩) l.length l.length, .slice (some ⟨b2, 0, none⟩) l.length l.length, .slice none 0 0] 79)) = W at *
  clear hW
  have hk := lookE_ok ⟨w2.heap.size, g, cap, b1, b2, okl, l, S.spots, S.slots⟩ m HBD.out HI.out (v := .slice none 0 0) (oks := fun _ => False) ⟨none, 0, rfl, Nat.le_refl _, Kd.F_nil _ _ _⟩ (fun k hk => hk.elim)
  unfold ptr arV at hk
  have e1 : ((l.length - 1 : Nat) : Int) = (l.length : Int) - 1 := by omega
  rw [e1] at hk
  have HK := hid hk
  clear hk e1
  go_wp2_with fail
  refine HK.out.mono ?_
  rintro e w4 ⟨rfl, o4, v4, h4, k4, s4⟩
  have c3 := h4.c3
  dsimp only at c3
  obtain ⟨A, c, ev⟩ := Kd.N_slice h4.bad
  subst ev
  have HB4 := hid (below_kp HB.out (Nat.le_refl _) k4 (fun k hk => by
    rcases hk with q | q
    · rw [q]; exact HA.out
    · exact q.elim))
  have hf := Kd.N_F h4.bad
  rw [ints_length] at c3 hf
  have HF := hid hf
  clear h4 k4 s4 hf
  cases bad with
  | nil =>
    obtain rfl := Option.some.inj HR.out
    clear HR
    go_wp2_with fail
    go_ret2
    exact ⟨rfl, HB4.out⟩
  | cons y r =>
    obtain rfl := Option.some.inj HR.out
    clear HR
    have hp : (0 : Int) < (((y :: r).length : Nat) : Int) := by simp
    have hmn := min_c (c := c) HF.out
    have HM := hid hmn
    clear hmn
    go_wp2_with fail
    refine HM.out.mono ?_
    rintro e w6 ⟨rfl, rfl⟩
    go_wp2_with fail
    go_ret2
    exact ⟨rfl, HB4.out⟩
end
end Go.Proofs.Yticbjhicjegfoaa.Q
namespace Go.Proofs.Yticbjhicjegfoaa.Q
open Go.RowKit
open Go.Proofs.YticbjhicjegfoaaW.PrintWords
/-- A known program is checked. -/
theorem chkE_c {src : ByteArray} {f : Nat → Bool → Bool} (h : chkE src f = true) : ∃ (T : Tree) (x : Nat × Bool), f x.1 x.2 = true ∧ T.ok = true ∧ (∀ w, Calls Try.prog 16 #[.string src] w fun e w' => ∃ okl g cap, e = .returned (.agg #[.slice (some ⟨g, 0, none⟩) T.l.length cap, .int .i64 T.at_, .bool T.ok]) ∧ NR w' okl g cap T.l ∧ (∀ k, okl k → w.heap.size ≤ k ∧ k < w'.heap.size) ∧ Below w.heap.size w w') ∧
    ∀ (w : World) (okl : Nat → Prop) (g cap : Nat), NR w okl g cap T.l → (∀ k, okl k → k < w.heap.size) → Calls Try.prog 21 #[.slice (some ⟨g, 0, none⟩) T.l.length cap] w fun e w' => e = .returned (.tuple #[.int .i64 x.1, .bool x.2]) ∧ Below w.heap.size w w' := by
  obtain ⟨T, x, p1, p2, p3, p4, p5, p6⟩ := chkE_get h
  exact ⟨T, x, p6, p3, parse_ok p1 p4, fun w okl g cap h hlo => check_c h hlo p5 p4 p2⟩
set_option maxHeartbeats 1600000 in
set_option maxRecDepth 100000 in
theorem awakeE_c (w : World) : Calls Try.prog 20 #[] w fun e w' => e = .returned (.bool true) ∧ Below w.heap.size w w' := by
  obtain ⟨T, ⟨x1, x2⟩, f1, _, P1, C1⟩ := chkE_c awakeE0
  obtain ⟨T', ⟨y1, y2⟩, f2, _, P2, C2⟩ := chkE_c awakeE1
  simp only [Bool.and_eq_true, Nat.beq_eq, Bool.not_eq_true'] at f1 f2
  obtain ⟨rfl, rfl⟩ := f1
  subst f2
  dsimp only at C1 C2
  have HP1 := hid P1
  have HP2 := hid P2
  have HC1 := hid C1
  have HC2 := hid C2
  clear P1 P2 C1 C2
  have hfl := fun A n c a b w => field_l A n c a b w
  go_enter Try.func20, Try.ntmps20
  go_wp2_with fail
  refine (HP1.out _).mono ?_
  rintro e w1 ⟨okl, g, cap, rfl, hN, hn, hb⟩
  have HN := hid hN
  have HNN := hid hn
  have HB := hid hb
  clear hN hn hb HP1
  go_wp2_with fail
  refine (HC1.out w1 okl g cap HN.out (fun k hk => (HNN.out k hk).2)).mono ?_
  rintro e w2 ⟨rfl, hb⟩
  have HB2 := hid (HB.out.trans (hb.mono HB.out.size))
  clear hb HN HNN HB HC1
  go_wp2_with fail
  refine (HP2.out w2).mono ?_
  rintro e w3 ⟨okl', g', cap', rfl, hN, hn, hb⟩
  have HN := hid hN
  have HNN := hid hn
  have HB := hid (HB2.out.trans (hb.mono HB2.out.size))
  clear hN hn hb HB2 HP2
  go_wp2_with fail
  refine (HC2.out w3 okl' g' cap' HN.out (fun k hk => (HNN.out k hk).2)).mono ?_
  rintro e w4 ⟨rfl, hb⟩
  have HB4 := hid (HB.out.trans (hb.mono HB.out.size))
  clear hb HN HNN HB HC2
  go_wp2_with fail
  go_ret
  exact ⟨rfl, HB4.out⟩
end Go.Proofs.Yticbjhicjegfoaa.Q
namespace Go.Proofs.Yticbjhicjegfoaa.Q
open Go.RowKit
open Go.Proofs.YticbjhicjegfoaaW.PrintWords
/-- So many blocks are made, one behind the other. -/
def allocs (w : World) : List Obj → World
  | [] => w
  | o :: l => allocs (w.alloc o) l
theorem allocs_below : ∀ (l : List Obj) {n : Nat} {w W : World}, n ≤ W.heap.size → Below n w W → Below n w (allocs W l)
  | [], _, _, _, _, h => h
  | _ :: l, _, _, _, hn, h => allocs_below l (by simp; omega) (h.alloc hn _)
theorem allocs_size : ∀ (l : List Obj) (w : World), (allocs w l).heap.size = w.heap.size + l.length
  | [], _ => rfl
  | _ :: l, w => by rw [allocs, allocs_size l]; simp; omega
theorem allocs_at : ∀ {l : List Obj} {i : Nat} {o : Obj} {w : World}, l[i]? = some o → (allocs w l).heap[w.heap.size + i]? = some o
  | [], _, _, _, h => by simp at h
  | x :: l, 0, o, w, h => by
    obtain rfl : x = o := by simpa using h
    have hb := allocs_below l (Nat.le_refl _) (Below.refl (w.alloc x).heap.size (w.alloc x))
    exact (hb.block _ (by simp)).trans (heap_alloc_new _ _)
  | x :: l, i + 1, o, w, h => by
    have h2 := allocs_at (w := w.alloc x) (show l[i]? = some o from h)
    have e : (w.alloc x).heap.size + i = w.heap.size + (i + 1) := by simp; omega
    rw [e] at h2
    exact h2
def nestS : List ByteArray := [(⟨#[98, 114, 101, 97, 107, 59]⟩ : ByteArray), (⟨#[99, 111, 110, 116, 105, 110, 117, 101, 59]⟩ : ByteArray), (⟨#[114, 101, 116, 117, 114, 110, 32, 49, 59]⟩ : ByteArray), (⟨#[121, 105, 101, 108, 100, 32, 49, 59]⟩ : ByteArray), (⟨#[108, 101, 116, 32, 97, 32, 61, 32, 49, 59, 32, 108, 101, 116, 32, 97, 32, 61, 32, 50, 59]⟩ : ByteArray), (⟨#[99, 111, 110, 115, 116, 32, 107, 32, 61, 32, 49, 59, 32, 107, 32, 61, 32, 50, 59]⟩ : ByteArray), (⟨#[110, 111, 98, 111, 100, 121, 32, 61, 32, 49, 59]⟩ : ByteArray)]
def nestI : List ByteArray := [(⟨#[119, 104, 105, 108, 101, 32, 40, 49, 41, 32, 123, 32]⟩ : ByteArray), (⟨#[102, 117, 110, 99, 116, 105, 111, 110, 32, 102, 40, 41, 32, 123, 32]⟩ : ByteArray), (⟨#[102, 117, 110, 99, 116, 105, 111, 110, 42, 32, 102, 40, 41, 32, 123, 32]⟩ : ByteArray), (⟨#[123, 32]⟩ : ByteArray), (⟨#[105, 102, 32, 40, 49, 41, 32, 123, 32]⟩ : ByteArray), (⟨#[116, 114, 121, 32, 123, 32]⟩ : ByteArray), (⟨#[116, 114, 121, 32, 123, 125, 32, 99, 97, 116, 99, 104, 32, 40, 101, 41, 32, 123, 32]⟩ : ByteArray)]
def nestR : List (List Bool) := [[true, false, false, false, false, false, false], [true, false, false, false, false, false, false], [false, true, true, false, false, false, false], [false, false, true, false, false, false, false], [false, false, false, false, false, false, false], [false, false, false, false, false, false, false], [false, false, false, false, false, false, false]]
def nestE (j : Nat) : ByteArray := if Nat.beq j 5 then (⟨#[32, 125, 32, 99, 97, 116, 99, 104, 32, 40, 101, 41, 32, 123, 125]⟩ : ByteArray) else (⟨#[32, 125]⟩ : ByteArray)
def nestOk (k j : Nat) : Bool := match nestS[k]?, nestI[j]?, nestR[k]? with
  | some s, some i, some r => match r[j]? with
    | some q => Nat.ble s.size 100 && (Nat.ble i.size 100 && chkE ((⟨#[48, 59, 32]⟩ : ByteArray) ++ i ++ s ++ nestE j) (fun a o => (o == q) && (if o then Nat.beq a 0 else Nat.ble (3 + i.size) a)))
    | none => false
  | _, _, _ => false
theorem nest_ok : ((List.range 7).all fun k => (List.range 7).all fun j => nestOk k j) = true := by decide +kernel
theorem nest_get {k j : Nat} (hk : k < 7) (hj : j < 7) : ∃ s i r q, nestS[k]? = some s ∧ nestI[j]? = some i ∧ nestR[k]? = some r ∧ r[j]? = some q ∧ s.size ≤ 100 ∧ i.size ≤ 100 ∧ chkE ((⟨#[48, 59, 32]⟩ : ByteArray) ++ i ++ s ++ nestE j) (fun a o => (o == q) && (if o then Nat.beq a 0 else Nat.ble (3 + i.size) a)) = true := by
  have h := List.all_eq_true.1 (List.all_eq_true.1 nest_ok k (List.mem_range.2 hk)) j (List.mem_range.2 hj)
  unfold nestOk at h
  split at h
  · rename_i s i r hs hi hr
    split at h
    · rename_i q hq
      simp only [Bool.and_eq_true (a := Nat.ble _ _), Nat.ble_eq] at h
      exact ⟨s, i, r, q, hs, hi, hr, hq, h.1, h.2.1, h.2.2⟩
    · cases h
  · cases h
def nestB (w : World) : List Obj := [.cells (nestS.map Value.string).toArray 9, .cells (nestI.map Value.string).toArray 9] ++ nestR.map (fun r => Obj.cells (r.map Value.bool).toArray 4) ++ [.cells ((List.range 7).map fun i => Value.slice (some ⟨w.heap.size + (i + 2), 0, none⟩) 7 7).toArray 28]
set_option maxHeartbeats 3200000 in
set_option maxRecDepth 100000 in
theorem nestsE_law (w : World) (n m : Int) (hn0 : 0 ≤ n) (hn1 : n ≤ 255) (hm0 : 0 ≤ m) (hm1 : m ≤ 255) : Calls Try.prog 11 #[.int .u8 n, .int .u8 m] w fun e w' => e = .returned (.bool true) ∧ Below w.heap.size w w' := by
  have y0 : n.tmod 7 = n % 7 := Int.tmod_eq_emod_of_nonneg hn0
  have y1 : m.tmod 7 = m % 7 := Int.tmod_eq_emod_of_nonneg hm0
  obtain ⟨k, hk7, hk⟩ : ∃ k : Nat, k < 7 ∧ n % 7 = (k : Int) := ⟨(n % 7).toNat, by omega, by omega⟩
  obtain ⟨j, hj7, hj⟩ : ∃ j : Nat, j < 7 ∧ m % 7 = (j : Int) := ⟨(m % 7).toNat, by omega, by omega⟩
  obtain ⟨s, i, r, q, hs, hi, hr, hq, zs, zi, hc⟩ := nest_get hk7 hj7
  obtain ⟨T, ⟨x1, x2⟩, f1, T3, P1, C1⟩ := chkE_c hc
  dsimp only at f1 C1
  rw [hk] at y0
  rw [hj] at y1
  obtain ⟨W, hW⟩ : ∃ W : World, W = allocs w (nestB w) := ⟨_, rfl⟩
  have hb : Below w.heap.size w W := by rw [hW]; exact allocs_below _ (Nat.le_refl _) (Below.refl _ _)
  have hsz : W.heap.size = w.heap.size + 10 := by rw [hW, allocs_size]; rfl
  have b0 : W.heap[w.heap.size + 0]? = some (Obj.cells (nestS.map Value.string).toArray 9) := by rw [hW]; exact allocs_at (l := nestB w) (i := 0) rfl
  have b1 : W.heap[w.heap.size + 1]? = some (Obj.cells (nestI.map Value.string).toArray 9) := by rw [hW]; exact allocs_at (l := nestB w) (i := 1) rfl
  have b9 : W.heap[w.heap.size + 9]? = some (Obj.cells ((List.range 7).map fun i => Value.slice (some ⟨w.heap.size + (i + 2), 0, none⟩) 7 7).toArray 28) := by rw [hW]; exact allocs_at (l := nestB w) (i := 9) rfl
  have bk : W.heap[w.heap.size + (k + 2)]? = some (Obj.cells (r.map Value.bool).toArray 4) := by
    rw [hW]; refine allocs_at (l := nestB w) (i := k + 2) ?_
    unfold nestB
    rw [List.getElem?_append_left (by simp [nestR]; omega), List.getElem?_append_right (by simp)]
    simp [hr]
  have q1 : W.cell? ⟨w.heap.size, k, none⟩ = some (.string s) := (cell_of_row _ _ _ _ _ _ b0).trans (by simp [hs])
  have q2 : W.cell? ⟨w.heap.size + 1, j, none⟩ = some (.string i) := (cell_of_row _ _ _ _ _ _ b1).trans (by simp [hi])
  have q3 : W.cell? ⟨w.heap.size + 1 + 1 + 1 + 1 + 1 + 1 + 1 + 1 + 1, k, none⟩ = some (.slice (some ⟨w.heap.size + (k + 2), 0, none⟩) 7 7) := (cell_of_row _ _ _ _ _ _ b9).trans (by simp [hk7])
  have q4 : W.cell? ⟨w.heap.size + (k + 2), j, none⟩ = some (.bool q) := (cell_of_row _ _ _ _ _ _ bk).trans (by simp [hq])
  have hk0 : (0 : Int) ≤ (k : Int) := by omega
  have hk7' : (k : Int) < 7 := by omega
  have hj0 : (0 : Int) ≤ (j : Int) := by omega
  have hj7' : (j : Int) < 7 := by omega
  have HW := hid hW
  have HQ := hid (And.intro q1 (And.intro q2 (And.intro q3 q4)))
  have HP1 := hid P1
  have HC1 := hid C1
  have HB := hid hb
  have HSZ := hid hsz
  have HF := hid f1
  have HT3 := hid T3
  have hen : (nestE j).size ≤ 100 := by unfold nestE; split <;> decide
  have EN_ := hid (show nestE j = if Nat.beq j 5 then (⟨#[32, 125, 32, 99, 97, 116, 99, 104, 32, 40, 101, 41, 32, 123, 125]⟩ : ByteArray) else (⟨#[32, 125]⟩ : ByteArray) from rfl)
  have z3 : ((⟨#[48, 59, 32]⟩ : ByteArray) ++ i).size ≤ 103 := by rw [ByteArray.size_append]; have : ((⟨#[48, 59, 32]⟩ : ByteArray)).size = 3 := rfl; omega
  have z4 : ((⟨#[48, 59, 32]⟩ : ByteArray) ++ i ++ s).size ≤ 203 := by rw [ByteArray.size_append]; omega
  have h1 : ∀ w, (Op.stringOp .add (⟨#[48, 59, 32]⟩ : ByteArray) i).run Try.prog w = .ok (.string ((⟨#[48, 59, 32]⟩ : ByteArray) ++ i)) w := fun w => run_string_add_sum w _ _ (by have : ((⟨#[48, 59, 32]⟩ : ByteArray)).size = 3 := rfl; omega)
  have h2 : ∀ w, (Op.stringOp .add ((⟨#[48, 59, 32]⟩ : ByteArray) ++ i) s).run Try.prog w = .ok (.string ((⟨#[48, 59, 32]⟩ : ByteArray) ++ i ++ s)) w := fun w => run_string_add_sum w _ _ (by omega)
  have h3 : ∀ w, (Op.stringOp .add ((⟨#[48, 59, 32]⟩ : ByteArray) ++ i ++ s) (nestE j)).run Try.prog w = .ok (.string ((⟨#[48, 59, 32]⟩ : ByteArray) ++ i ++ s ++ nestE j)) w := fun w => run_string_add_sum w _ _ (by omega)
  clear hs hi hr hq hW b0 b1 b9 bk q1 q2 q3 q4 hk hj hb hsz P1 C1 f1 hc T3 z3 z4 hen
  go_enter Try.func11, Try.ntmps11
  go_upto_region 4 with fail
  have hcw : ∀ {P : Program} {c : Code} {Q : Exit → Act → World → Prop} {a : Act}, Code.wp P c Q a W → Code.wp P c Q a (allocs w (nestB w)) := by
    intro P c Q a h; rw [← HW.out]; exact h
  refine hcw ?_
  clear hcw HW
  go_quiet (fail)
  generalize hWd : W.drewN _ = Wd
  have HBd := hid (show Below W.heap.size W Wd by rw [← hWd]; exact pw_below_drewN (Below.refl _ _) _)
  have q1 := (HBd.out.cell (p := ⟨w.heap.size, k, none⟩) (by have := HSZ.out; show w.heap.size < _; omega)).trans HQ.out.1
  have q2 := (HBd.out.cell (p := ⟨w.heap.size + 1, j, none⟩) (by have := HSZ.out; show w.heap.size + 1 < _; omega)).trans HQ.out.2.1
  clear hWd
  by_cases hj5 : j = 5
  · have t5 : ((j : Int) == 5) = true := by rw [beq_iff_eq]; omega
    have e5 : nestE j = (⟨#[32, 125, 32, 99, 97, 116, 99, 104, 32, 40, 101, 41, 32, 123, 125]⟩ : ByteArray) := by rw [hj5]; rfl
    rw [e5] at h3 HP1
    clear hj5 e5 EN_
    go_upto_region 8 with fail
    go_quiet (fail)
    generalize hWe : Wd.drewN _ = We
    have HBe := hid (show Below W.heap.size W We by rw [← hWe]; exact pw_below_drewN HBd.out _)
    clear hWe q1 q2
    go_wp2_with fail
    refine (HP1.out _).mono ?_
    rintro e w1 ⟨okl, g, cap, rfl, hN, hn, hb1⟩
    have hT := heap_alloc_new w1 (.cells #[.slice (some ⟨g, 0, none⟩) T.l.length cap, .int .i64 T.at_, .bool T.ok] 31)
    have hb2 := (Below.refl w1.heap.size w1).alloc (Nat.le_refl _) (.cells #[.slice (some ⟨g, 0, none⟩) T.l.length cap, .int .i64 T.at_, .bool T.ok] 31)
    have a0 := (cell_of_row _ _ 0 _ _ _ hT).trans (b := some (Value.slice (some ⟨g, 0, none⟩) T.l.length cap)) rfl
    have HT := hid hT
    have HN := hid (hN.below hb2)
    have HNN := hid (show ∀ k, okl k → k < (w1.alloc (.cells #[.slice (some ⟨g, 0, none⟩) T.l.length cap, .int .i64 T.at_, .bool T.ok] 31)).heap.size from fun k hk => by have := (hn k hk).2; simp; omega)
    have HB2 := hid (HBe.out.trans ((hb1.trans (hb2.mono hb1.size)).mono HBe.out.size))
    have H17 := hid (show w1.heap.size < (w1.alloc (.cells #[.slice (some ⟨g, 0, none⟩) T.l.length cap, .int .i64 T.at_, .bool T.ok] 31)).heap.size by simp)
    clear hT hN hn hb1 hb2 HP1
    go_upto_region 10 with fail
    generalize (w1.alloc (.cells #[.slice (some ⟨g, 0, none⟩) T.l.length cap, .int .i64 T.at_, .bool T.ok] 31)) = W2 at *
    go_wp2_with fail
    refine (HC1.out W2 okl g cap HN.out HNN.out).mono ?_
    rintro e w4 ⟨rfl, hb4⟩
    have HB4 := hid (HB2.out.trans (hb4.mono HB2.out.size))
    have hT := (hb4.block _ H17.out).trans HT.out
    have a2 := (cell_of_row _ _ 2 _ _ _ hT).trans (c := some (Value.bool true)) (by rw [HT3.out]; rfl)
    have q2 := (HB4.out.cell (p := ⟨w.heap.size + 1, j, none⟩) (by have := HSZ.out; show w.heap.size + 1 < _; omega)).trans HQ.out.2.1
    have q3 := (HB4.out.cell (p := ⟨w.heap.size + 1 + 1 + 1 + 1 + 1 + 1 + 1 + 1 + 1, k, none⟩) (by have := HSZ.out; show w.heap.size + 1 + 1 + 1 + 1 + 1 + 1 + 1 + 1 + 1 < _; omega)).trans HQ.out.2.2.1
    have q4 := (HB4.out.cell (p := ⟨w.heap.size + (k + 2), j, none⟩) (by have := HSZ.out; show w.heap.size + (k + 2) < _; omega)).trans HQ.out.2.2.2
    clear hb4 hT a0 HN HNN HT H17 HB2 HBe HBd
    cases x2
    · obtain ⟨rfl, hx⟩ : q = false ∧ 3 + i.size ≤ x1 := by have := HF.out; simpa using this
      have hx' : 3 + (i.size : Int) ≤ (x1 : Int) := by omega
      clear hx
      go_wp2_with fail
      refine (awakeE_c _).mono ?_
      rintro e w5 ⟨rfl, hb5⟩
      have HB5 := hid (HB.out.trans ((HB4.out.trans (hb5.mono HB4.out.size)).mono HB.out.size))
      clear hb5 HB4
      go_wp2_with fail
      go_ret
      exact ⟨rfl, HB5.out⟩
    · obtain ⟨rfl, rfl⟩ : q = true ∧ x1 = 0 := by
        have h := HF.out
        cases q with
        | false => simp at h
        | true => simpa using h
      go_wp2_with fail
      refine (awakeE_c _).mono ?_
      rintro e w5 ⟨rfl, hb5⟩
      have HB5 := hid (HB.out.trans ((HB4.out.trans (hb5.mono HB4.out.size)).mono HB.out.size))
      clear hb5 HB4
      go_wp2_with fail
      go_ret
      exact ⟨rfl, HB5.out⟩
  · have t5 : ((j : Int) == 5) = false := by rw [beq_eq_false_iff_ne]; omega
    have e5 : nestE j = (⟨#[32, 125]⟩ : ByteArray) := by
      unfold nestE
      rw [if_neg (by simpa using hj5)]
    rw [e5] at h3 HP1
    clear hj5 e5 EN_
    go_upto_region 8 with fail
    go_quiet (fail)
    generalize hWe : Wd.drewN _ = We
    have HBe := hid (show Below W.heap.size W We by rw [← hWe]; exact pw_below_drewN HBd.out _)
    clear hWe q1 q2
    go_wp2_with fail
    refine (HP1.out _).mono ?_
    rintro e w1 ⟨okl, g, cap, rfl, hN, hn, hb1⟩
    have hT := heap_alloc_new w1 (.cells #[.slice (some ⟨g, 0, none⟩) T.l.length cap, .int .i64 T.at_, .bool T.ok] 31)
    have hb2 := (Below.refl w1.heap.size w1).alloc (Nat.le_refl _) (.cells #[.slice (some ⟨g, 0, none⟩) T.l.length cap, .int .i64 T.at_, .bool T.ok] 31)
    have a0 := (cell_of_row _ _ 0 _ _ _ hT).trans (b := some (Value.slice (some ⟨g, 0, none⟩) T.l.length cap)) rfl
    have HT := hid hT
    have HN := hid (hN.below hb2)
    have HNN := hid (show ∀ k, okl k → k < (w1.alloc (.cells #[.slice (some ⟨g, 0, none⟩) T.l.length cap, .int .i64 T.at_, .bool T.ok] 31)).heap.size from fun k hk => by have := (hn k hk).2; simp; omega)
    have HB2 := hid (HBe.out.trans ((hb1.trans (hb2.mono hb1.size)).mono HBe.out.size))
    have H17 := hid (show w1.heap.size < (w1.alloc (.cells #[.slice (some ⟨g, 0, none⟩) T.l.length cap, .int .i64 T.at_, .bool T.ok] 31)).heap.size by simp)
    clear hT hN hn hb1 hb2 HP1
    go_upto_region 10 with fail
    generalize (w1.alloc (.cells #[.slice (some ⟨g, 0, none⟩) T.l.length cap, .int .i64 T.at_, .bool T.ok] 31)) = W2 at *
    go_wp2_with fail
    refine (HC1.out W2 okl g cap HN.out HNN.out).mono ?_
    rintro e w4 ⟨rfl, hb4⟩
    have HB4 := hid (HB2.out.trans (hb4.mono HB2.out.size))
    have hT := (hb4.block _ H17.out).trans HT.out
    have a2 := (cell_of_row _ _ 2 _ _ _ hT).trans (c := some (Value.bool true)) (by rw [HT3.out]; rfl)
    have q2 := (HB4.out.cell (p := ⟨w.heap.size + 1, j, none⟩) (by have := HSZ.out; show w.heap.size + 1 < _; omega)).trans HQ.out.2.1
    have q3 := (HB4.out.cell (p := ⟨w.heap.size + 1 + 1 + 1 + 1 + 1 + 1 + 1 + 1 + 1, k, none⟩) (by have := HSZ.out; show w.heap.size + 1 + 1 + 1 + 1 + 1 + 1 + 1 + 1 + 1 < _; omega)).trans HQ.out.2.2.1
    have q4 := (HB4.out.cell (p := ⟨w.heap.size + (k + 2), j, none⟩) (by have := HSZ.out; show w.heap.size + (k + 2) < _; omega)).trans HQ.out.2.2.2
    clear hb4 hT a0 HN HNN HT H17 HB2 HBe HBd
    cases x2
    · obtain ⟨rfl, hx⟩ : q = false ∧ 3 + i.size ≤ x1 := by have := HF.out; simpa using this
      have hx' : 3 + (i.size : Int) ≤ (x1 : Int) := by omega
      clear hx
      go_wp2_with fail
      refine (awakeE_c _).mono ?_
      rintro e w5 ⟨rfl, hb5⟩
      have HB5 := hid (HB.out.trans ((HB4.out.trans (hb5.mono HB4.out.size)).mono HB.out.size))
      clear hb5 HB4
      go_wp2_with fail
      go_ret
      exact ⟨rfl, HB5.out⟩
    · obtain ⟨rfl, rfl⟩ : q = true ∧ x1 = 0 := by
        have h := HF.out
        cases q with
        | false => simp at h
        | true => simpa using h
      go_wp2_with fail
      refine (awakeE_c _).mono ?_
      rintro e w5 ⟨rfl, hb5⟩
      have HB5 := hid (HB.out.trans ((HB4.out.trans (hb5.mono HB4.out.size)).mono HB.out.size))
      clear hb5 HB4
      go_wp2_with fail
      go_ret
      exact ⟨rfl, HB5.out⟩
end Go.Proofs.Yticbjhicjegfoaa.Q
