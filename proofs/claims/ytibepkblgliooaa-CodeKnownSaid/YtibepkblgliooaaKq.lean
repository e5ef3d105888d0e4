/- What a proof further on needs (part q). -/
import Derived.Carry
import Derived.Maps.Keyed
import Derived.Maps.Own
import Derived.Maps.OwnOps
import Derived.StillTailTactics
import Derived.Test.YtibepkblgliooaaKa
import Derived.Test.YtibepkblgliooaaKf
import Derived.Test.YtibepkblgliooaaKj
import Derived.Test.YtibepkblgliooaaKk
import Derived.Test.YtibepkblgliooaaKl
import Derived.Test.YtibepkblgliooaaKm
import Derived.Test.YtibepkblgliooaaKn
import Derived.Test.YtibepkblgliooaaKo
import Derived.Test.YtibepkblgliooaaKp
set_option linter.unusedVariables false
namespace Go.Proofs.Ytibepkblgliooaa.Q
open Go.RowKit
open Go.Proofs.YtibepkblgliooaaW.PrintWords
theorem good (n : Nat) : Good n := by
  induction n using Nat.strongRecOn with
  | _ n ih =>
    exact {
      list := by intros; exact list_w ih (by assumption) (by assumption)
      commas := by intros; exact commas_w ih (by assumption) (by assumption)
      block := by intros; exact block_w ih (by assumption) (by assumption)
      stmt := by intros; exact stmt_w ih (by assumption) (by assumption)
      inner := by intros; exact inner_w ih (by assumption) (by assumption)
      one := by intros; exact one_w ih (by assumption) (by assumption)
      fn := by intros; exact fn_w ih (by assumption) (by assumption)
      e := by intros; exact e_w ih (by assumption) (by assumption)
      assign := by intros; exact assign_w ih (by assumption) (by assumption)
      cond := by intros; exact cond_w ih (by assumption) (by assumption)
      binary := by intros; exact binary_w (by assumption) ih (by assumption) (by assumption)
      unary := by intros; exact unary_w ih (by assumption) (by assumption)
      post := by intros; exact post_w ih (by assumption) (by assumption)
      first := by intros; exact first_w ih (by assumption) (by assumption)
      obj := by intros; exact obj_w ih (by assumption) (by assumption) }
/-- What Parse leaves: nodes in blocks of its own. -/
def Parsed (w : World) (T : Tree) (e : Ending) (w' : World) : Prop :=
  ∃ ok v, e = .returned (.agg #[v, .int .i64 T.at_, .bool T.ok]) ∧ Kd.N kNd 37 w' 0 ok v T.l ∧ (∀ k, ok k → w.heap.size ≤ k ∧ k < w'.heap.size) ∧ Below w.heap.size w w'
set_option maxHeartbeats 3200000 in
set_option maxRecDepth 100000 in
theorem parse_c {n : Nat} {src : ByteArray} {T : Tree} (hr : parseN n src = some T) (w : World) : Calls Try.prog 8 #[.string src] w (Parsed w T) := by
  unfold parseN at hr
  have hb0 : Below w.heap.size w (w.alloc (.cells #[.slice none 0 0, .int .i64 0, .bool false] 26)) := (Below.refl _ _).alloc (Nat.le_refl _) _
  have rb := heap_alloc_new w (.cells #[.slice none 0 0, .int .i64 0, .bool false] 26)
  split at hr
  · rename_i hs
    injection hr with hr
    subst hr
    have hs' : (4096 : Int) < (src.size : Int) := by omega
    have HB := hid hb0
    clear hb0 rb
    go_enter Try.func8, Try.ntmps8
    go_wp2_with fail
    exact bodyPost_ret (v := .agg #[.slice none 0 0, .int .i64 0, .bool false]) (by simp [results, Try.results8, go_sem]) rfl ⟨fun _ => False, _, rfl, Kd.R_N (Kd.R_nil _ _ _ _ _), fun _ h => h.elim, HB.out⟩
  · rename_i hs
    obtain ⟨⟨x1, x2, x3⟩, hx, hr2⟩ := Option.bind_eq_some_iff.1 hr
    clear hr
    dsimp only at hr2
    have hs' : ¬ (4096 : Int) < (src.size : Int) := by omega
    have hs1 : src.size ≤ 4096 := by omega
    have hfit := tok_fits src 0 (Nat.zero_le _)
    have htk := tok_c (w := w.alloc (.cells #[.slice none 0 0, .int .i64 0, .bool false] 26)) src 0 hs1 (Nat.zero_le _)
    have HTK := hid htk
    have HB := hid hb0
    have HX := hid hx
    have HR := hid hr2
    have HFIT := hid (And.intro hs1 hfit.2.2.1)
    have HRB := hid rb
    clear htk hb0 hx hr2 hfit hs1 rb hs
    go_enter Try.func8, Try.ntmps8
    go_wp2_with fail
    refine HTK.out.mono ?_
    rintro e w1 ⟨rfl, hb1⟩
    obtain ⟨ok0, hok0⟩ : ∃ ok0 : Nat → Prop, ok0 = fun _ => False := ⟨_, rfl⟩
    have hb2 : Below w.heap.size w w1 := HB.out.trans (hb1.mono HB.out.size)
    have rb1 : w1.heap[w.heap.size]? = some (.cells #[.slice none 0 0, .int .i64 0, .bool false] 26 (0, 0)) := (hb1.block _ (by simp)).trans HRB.out
    have hr1 : w.heap.size < w1.heap.size := (Array.getElem?_eq_some_iff.1 rb1).1
    have hps : (Obj.cells #[.string src, .int .i64 (tok src 0).1.kind, .string (tok src 0).1.text, .int .i64 (tok src 0).1.num, .int .i64 (tok src 0).1.at_, .bool (tok src 0).1.line, .int .i64 (tok src 0).2, .slice none 0 0, .int .i64 0, .bool false] 60) = .cells (psRow (start src) (.slice none 0 0)) 60 := rfl
    have HPI : Box (PI (w1.alloc (.cells (psRow (start src) (.slice none 0 0)) 60)) w1.heap.size ok0 (.slice none 0 0) (start src)) := hid ⟨heap_alloc_new _ _, Kd.R_N (Kd.R_nil _ _ _ _ _), by rw [hok0]; exact fun h => h, HFIT.out, by rw [hok0]; exact fun _ h => h.elim⟩
    have HB2 := hid (hb2.trans (((Below.refl w1.heap.size w1).alloc (Nat.le_refl _) (.cells (psRow (start src) (.slice none 0 0)) 60)).mono hb2.size))
    have HRB2 := hid ((heap_alloc_old w1 (.cells (psRow (start src) (.slice none 0 0)) 60) hr1).trans rb1)
    have HR1 := hid hr1
    have HOK := hid hok0
    have HPS := hid hps
    clear hb1 hb2 rb1 hr1 HRB HTK hok0 hps HB
    go_wp2_with fail
    rw [HPS.out]
    generalize (w1.alloc (.cells (psRow (start src) (.slice none 0 0)) 60)) = W at HPI HB2 HRB2 ⊢
    have H0 := hid (At.start HPI.out)
    refine ((good n).list HX.out H0.out.p).mono ?_
    rintro e w2 ⟨val, ok2, v2, rfl, h2, l2⟩
    obtain ⟨A2, c2, rfl⟩ := l2.slice
    have hne : w.heap.size ≠ w1.heap.size := by have := HR1.out; omega
    have rb2 : w2.heap[w.heap.size]? = some (.cells #[.slice none 0 0, .int .i64 0, .bool false] 26 (0, 0)) := h2.kp.heap HRB2.out (by rw [HOK.out]; exact fun q => q.elim hne (fun h => h))
    have hwW : w1.heap.size < W.heap.size := HPI.out.lt
    have hbel : Below w.heap.size w w2 := HB2.out.trans (h2.kp.to_below HB2.out.size (by rw [HOK.out]; exact fun k q => q.elim (fun e => by have := HR1.out; omega) (fun h => h.elim)))
    have c9 := h2.p.c9
    have hr := HR.out
    clear HR
    have H2 := hid h2
    have L2 := hid l2
    have HBEL := hid hbel
    have HNE := hid hne
    clear h2 l2 hbel HX
    split at hr
    · rename_i hb
      injection hr with hr
      subst hr
      rw [hb] at c9
      have c4 := H2.out.p.c4
      have t0 := (cell_of_row _ _ 0 _ _ _ rb2).trans (b := some (Value.slice none 0 0)) rfl
      have t1 := (cell_of_row _ _ 1 _ _ _ rb2).trans (b := some (Value.int .i64 0)) rfl
      have t2 := (cell_of_row _ _ 2 _ _ _ rb2).trans (b := some (Value.bool false)) rfl
      have f0 : w2.frozen? ⟨w.heap.size, 0, none⟩ = false := by simp [World.frozen?, rb2]
      have f1 : w2.frozen? ⟨w.heap.size, 1, none⟩ = false := by simp [World.frozen?, rb2]
      have f2 : w2.frozen? ⟨w.heap.size, 2, none⟩ = false := by simp [World.frozen?, rb2]
      clear hb rb2
      go_wp2_with fail
      refine bodyPost_ret (v := .agg #[.slice none 0 0, .int .i64 x3.t.at_, .bool false]) (by simp [results, Try.results8, go_sem, t0, t1, t2]) rfl ⟨fun _ => False, _, rfl, Kd.R_N (Kd.R_nil _ _ _ _ _), fun _ h => h.elim, ?_⟩
      exact ((HBEL.out.setCell (Nat.le_refl _) _).setCell (Nat.le_refl _) _).setCell (Nat.le_refl _) _
    · rename_i hb
      rw [show x3.bad = false by simpa using hb] at c9
      obtain ⟨⟨y1, y3⟩, hy, hr2⟩ := Option.map_eq_some_iff.1 hr
      have HY := hid hy
      obtain rfl : (⟨y3.l, 0, true⟩ : Tree) = T := hr2
      clear hr hy hb
      go_wp2_with fail
      refine (put_row H2.out L2.out HY.out).mono ?_
      rintro e w3 ⟨rfl, hN⟩
      obtain ⟨ok3, v3, h3, k3, s3⟩ := hN
      have rb3 : w3.heap[w.heap.size]? = some (.cells #[.slice none 0 0, .int .i64 0, .bool false] 26 (0, 0)) := k3.heap HRB2.out (by rw [HOK.out]; exact fun q => q.elim HNE.out (fun h => h))
      have hbel3 : Below w.heap.size w w3 := HB2.out.trans (k3.to_below HB2.out.size (by rw [HOK.out]; exact fun k q => q.elim (fun e => by have := HR1.out; omega) (fun h => h.elim)))
      have hnr : ∀ k, ok3 k → k ≠ w.heap.size := fun k hk e => by
        have := s3 k hk
        rw [HOK.out] at this
        rcases this with h | h
        · exact h
        · have := HR1.out; omega
      have hnew : ∀ k, ok3 k → w.heap.size ≤ k ∧ k < w3.heap.size := fun k hk => ⟨by
        have := s3 k hk
        rw [HOK.out] at this
        rcases this with h | h
        · exact h.elim
        · have := HR1.out; omega, h3.lo k hk⟩
      have c7 := h3.c7
      have t0 := (cell_of_row _ _ 0 _ _ _ rb3).trans (b := some (Value.slice none 0 0)) rfl
      have t1 := (cell_of_row _ _ 1 _ _ _ rb3).trans (b := some (Value.int .i64 0)) rfl
      have t2 := (cell_of_row _ _ 2 _ _ _ rb3).trans (b := some (Value.bool false)) rfl
      have f0 : w3.frozen? ⟨w.heap.size, 0, none⟩ = false := by simp [World.frozen?, rb3]
      have f1 : w3.frozen? ⟨w.heap.size, 1, none⟩ = false := by simp [World.frozen?, rb3]
      have f2 : w3.frozen? ⟨w.heap.size, 2, none⟩ = false := by simp [World.frozen?, rb3]
      obtain ⟨A3, c3, e3⟩ := Kd.N_slice h3.row
      subst e3
      have H3 := hid h3
      have HBEL3 := hid hbel3
      have HNR := hid hnr
      have HNEW := hid hnew
      clear h3 k3 s3 rb3 rb2 hbel3 hnr hnew c9 H2 L2
      go_wp2_with fail
      refine bodyPost_ret (v := .agg #[.slice A3 y3.l.length c3, .int .i64 0, .bool true]) (by simp [results, Try.results8, go_sem, t0, t1, t2]) rfl ⟨ok3, _, rfl, ?_, fun k hk => ⟨(HNEW.out k hk).1, by simpa using (HNEW.out k hk).2⟩, ?_⟩
      · have far := fun (W' : World) (i : Nat) (u : Value) (h : Kd.N kNd 37 W' 0 ok3 (.slice A3 y3.l.length c3) y3.l) => Kd.N_far (p := ⟨w.heap.size, i, none⟩) h (fun k hk => HNR.out k hk) u
        exact far _ _ _ (far _ _ _ (far _ _ _ H3.out.row))
      · exact ((HBEL3.out.setCell (Nat.le_refl _) _).setCell (Nat.le_refl _) _).setCell (Nat.le_refl _) _
end Go.Proofs.Ytibepkblgliooaa.Q
namespace Go.Proofs.Ytibepkblgliooaa.Q
open Go.RowKit
open Go.Proofs.YtibepkblgliooaaW.PrintWords
theorem field_l (A : Option Addr) (n c : Nat) (a : Int) (b : Bool) (w : World) : (Instr.field 26 (.agg #[.slice A n c, .int .i64 a, .bool b]) 0).run Try.prog w = .ok (.slice A n c) w := by
  simp [Instr.field, go_sem, asAgg]
theorem lookF_lens {l : List Nd} {m k : Nat} {S S' : Lk} (h : lookF l m k S = some S') : S'.spots.length = S.spots.length ∧ S'.slots.length = S.slots.length := (lookF_open h).2
theorem looked_lens {l : List Nd} {m : Nat} {S : Lk} (h : looked m l = some S) : S.spots.length = l.length ∧ S.slots.length = l.length := by
  unfold looked at h
  dsimp only at h
  split at h
  · injection h with h; rw [← h]; simp
  · have := lookF_lens h; simpa using this
section
variable {w : World} {okl : Nat → Prop} {g cap : Nat} {l : List Nd} {m : Nat} {S : Lk}
set_option maxHeartbeats 800000 in
set_option maxRecDepth 100000 in
theorem spots_c (h : NR w okl g cap l) (hlo : ∀ k, okl k → k < w.heap.size) (hl : l.length ≤ 1048576) (hl0 : 0 < l.length) (hr : looked m l = some S) :
    Calls Try.prog 20 #[.slice (some ⟨g, 0, none⟩) l.length cap] w fun e w' => ∃ b, e = .returned (.slice (some ⟨b, 0, none⟩) l.length l.length) ∧ w'.heap[b]? = some (.cells (spCells S.spots).toArray 85 (0, 0)) ∧ Below w.heap.size w w' ∧ w.heap.size ≤ b := by
  have hc := looked_c h hlo hl hl0 hr
  have HC := hid hc
  clear h hlo hr hc
  go_enter Try.func20, Try.ntmps20
  go_wp2_with fail
  refine HC.out.mono ?_
  rintro e w1 ⟨a, b1, b2, opv, oko, rfl, hI, hb, h1, h2⟩
  have c1 := hI.c1
  dsimp only at c1
  have HI := hid hI
  have HB := hid hb
  clear hI hb
  go_wp2_with fail
  go_ret
  exact ⟨b1, rfl, HI.out.sp, HB.out, h1⟩
set_option maxHeartbeats 800000 in
set_option maxRecDepth 100000 in
theorem slots_c (h : NR w okl g cap l) (hlo : ∀ k, okl k → k < w.heap.size) (hl : l.length ≤ 1048576) (hl0 : 0 < l.length) (hr : looked m l = some S) :
    Calls Try.prog 21 #[.slice (some ⟨g, 0, none⟩) l.length cap] w fun e w' => ∃ b, e = .returned (.slice (some ⟨b, 0, none⟩) l.length l.length) ∧ w'.heap[b]? = some (.cells (slCells S.slots).toArray 3 (0, 0)) ∧ Below w.heap.size w w' ∧ w.heap.size ≤ b := by
  have hc := looked_c h hlo hl hl0 hr
  have HC := hid hc
  clear h hlo hr hc
  go_enter Try.func21, Try.ntmps21
  go_wp2_with fail
  refine HC.out.mono ?_
  rintro e w1 ⟨a, b1, b2, opv, oko, rfl, hI, hb, h1, h2⟩
  have c2 := hI.c2
  dsimp only at c2
  have HI := hid hI
  have HB := hid hb
  clear hI hb
  go_wp2_with fail
  go_ret
  exact ⟨b2, rfl, HI.out.sl, HB.out, h2⟩
/-- What is parsed, and is a program. -/
theorem parse_ok {src : ByteArray} {T : Tree} (hr : parse src = some T) (h0 : 0 < T.l.length) (w : World) : Calls Try.prog 8 #[.string src] w fun e w' =>
    ∃ okl g cap, e = .returned (.agg #[.slice (some ⟨g, 0, none⟩) T.l.length cap, .int .i64 T.at_, .bool T.ok]) ∧ NR w' okl g cap T.l ∧ (∀ k, okl k → w.heap.size ≤ k ∧ k < w'.heap.size) ∧ Below w.heap.size w w' := by
  refine (parse_c hr w).mono ?_
  rintro e w1 ⟨ok, v, rfl, hN, hn, hb⟩
  obtain ⟨g, cap, rfl, _⟩ := Kd.N_form hN h0
  exact ⟨ok, g, cap, rfl, hN, hn, hb⟩
end
end Go.Proofs.Ytibepkblgliooaa.Q
namespace Go.Proofs.Ytibepkblgliooaa.Q
open Go.RowKit Go.Maps
open Go.Proofs.YtibepkblgliooaaW.PrintWords
def kIns : Kd Ins := Kd.iso (Kd.pair (Kd.int .i64) (Kd.pair (Kd.int .i64) (Kd.pair (Kd.int .i64) Kd.string))) (fun x : Ins => (x.op, x.a, x.b, x.s))
def insCs (x : Ins) : List Value := [.int .i64 x.op, .int .i64 x.a, .int .i64 x.b, .string x.s]
theorem kIns_M (w : World) (base : Nat) (ok : Nat → Prop) (x : Ins) : kIns.M w base ok x (insCs x) := ⟨[_], [_, _, _], rfl, rfl, [_], [_, _], rfl, rfl, [_], [_], rfl, rfl, rfl⟩
theorem kIns_K {w : World} {x : Ins} {cs : List Value} (h : kIns.K w x cs) : cs = insCs x := by
  obtain ⟨_, _, rfl, rfl, _, _, rfl, rfl, _, _, rfl, rfl, rfl⟩ := h
  rfl
def ptrV (p : Option Nat) : Value := .pointer (p.map fun p => ⟨p, 0, none⟩)
def kLv : Kd (Int × Option Nat) := Kd.pair (Kd.int .i64) (Kd.scalar ptrV (fun _ => rfl))
def lvCs (x : Int × Option Nat) : List Value := [.int .i64 x.1, ptrV x.2]
theorem kLv_M (w : World) (base : Nat) (ok : Nat → Prop) (x : Int × Option Nat) : kLv.M w base ok x (lvCs x) := ⟨[_], [_], rfl, rfl, rfl⟩
theorem kLv_K {w : World} {x : Int × Option Nat} {cs : List Value} (h : kLv.K w x cs) : cs = lvCs x := by
  obtain ⟨_, _, rfl, rfl, rfl⟩ := h
  rfl
theorem infoIns : (Try.prog.info? 42).map (fun i => (i.zero, i.size, i.bytes)) = some (some (.agg #[.int .i64 0, .int .i64 0, .int .i64 0, .string ⟨#[]⟩]), 4, 40) := by kernel_rfl
theorem infoLv : (Try.prog.info? 130).map (fun i => (i.zero, i.size, i.bytes)) = some (some (.agg #[.int .i64 0, .pointer none]), 2, 16) := by kernel_rfl
/-- The row's elements of what lies open. -/
def lvE : Lv → Option Nat → Int × Option Nat
  | .lv op, _ => (op, none)
  | .lp _ _, p => (0, p)
def lvRow (L : List Lv) (ids : List (Option Nat)) : List (Int × Option Nat) := (List.zipWith lvE L ids).reverse
/-- The loops that lie open: each in a block of its own, with a row of its own. -/
inductive LvM (w : World) : List Lv → List (Option Nat) → (Nat → Prop) → Prop
  | nil : LvM w [] [] (fun _ => False)
  | lv {op : Int} {r : List Lv} {ids : List (Option Nat)} {f : Nat → Prop} (h : LvM w r ids f) : LvM w (.lv op :: r) (none :: ids) f
  | lp {p top : Nat} {outs : List Nat} {vo : Value} {ok : Nat → Prop} {r : List Lv} {ids : List (Option Nat)} {f : Nat → Prop} (hc : w.heap[p]? = some (.cells #[.int .i64 top, vo] 123 (0, 0)))
    (ho : (Kd.int .i64).R 3 w 0 ok vo (ints outs)) (hp : ¬ ok p) (hl : ∀ k, ok k → k < w.heap.size) (hf : ∀ k, f k → k ≠ p ∧ ¬ ok k) (h : LvM w r ids f) : LvM w (.lp top outs :: r) (some p :: ids) (fun k => k = p ∨ ok k ∨ f k)
section
variable {w w' : World} {L : List Lv} {ids : List (Option Nat)} {f : Nat → Prop}
theorem LvM.lt (h : LvM w L ids f) : ∀ k, f k → k < w.heap.size := by
  induction h with
  | nil => exact fun _ h => h.elim
  | lv _ ih => exact ih
  | lp hc ho hp hl hf h ih => exact fun k hk => hk.elim (fun e => e ▸ (Array.getElem?_eq_some_iff.1 hc).1) (fun h => h.elim (hl k) (ih k))
theorem LvM.step (h : LvM w L ids f) (hs : w.heap.size ≤ w'.heap.size) (hm : ∀ k, f k → w'.heap[k]? = w.heap[k]?) : LvM w' L ids f := by
  induction h with
  | nil => exact .nil
  | lv _ ih => exact .lv (ih hm)
  | lp hc ho hp hl hf h ih => exact .lp ((hm _ (.inl rfl)).trans hc) (Kd.R_step ho (fun k hk _ => hm k (.inr (.inl hk)))) hp (fun k hk => Nat.lt_of_lt_of_le (hl k hk) hs) hf (ih (fun k hk => hm k (.inr (.inr hk))))
theorem LvM.len (h : LvM w L ids f) : ids.length = L.length := by
  induction h with
  | nil => rfl
  | lv _ ih => simp [ih]
  | lp _ _ _ _ _ _ ih => simp [ih]
end
/-- What does not turn while instructions are made. -/
structure MG where
  a : Nat
  g : Nat
  cap : Nat
  b1 : Nat
  b2 : Nat
  mb : Nat
  okl : Nat → Prop
  l : List Nd
  spots : List Sp
  slots : List Int
  funs : Nat → Int
/-- A map from nodes to functions. -/
def MapF (w : World) (mb : Nat) (funs : Nat → Int) : Prop :=
  ∃ (n : Nat) (D : DataW Unit), w.ownsMap Try.prog 3 (plainElem Try.prog 3) mb n D ∧ ∀ k : Nat, k ≤ 1048576 → D.atKey (.int .i64 k) (.lit (.int .i64 0)) = .lit (.int .i64 (funs k))
def mkRow (G : MG) (cv ov : Value) : Array Value := #[.slice (some ⟨G.g, 0, none⟩) G.l.length G.cap, .slice (some ⟨G.b1, 0, none⟩) G.l.length G.l.length, .slice (some ⟨G.b2, 0, none⟩) G.l.length G.l.length, .map (some G.mb), cv, ov]
structure MSi (G : MG) (w : World) (F : Nat → Prop) (ids : List (Option Nat)) (S : Mk) (okc : Nat → Prop) (cv : Value) (oko : Nat → Prop) (ov : Value) (f : Nat → Prop) : Prop where
  cell : w.heap[G.a]? = some (.cells (mkRow G cv ov) 73 (0, 0))
  nodes : NR w G.okl G.g G.cap G.l
  sp : w.heap[G.b1]? = some (.cells (spCells G.spots).toArray 85 (0, 0))
  sl : w.heap[G.b2]? = some (.cells (slCells G.slots).toArray 3 (0, 0))
  mp : MapF w G.mb G.funs
  code : kIns.R 42 w 0 okc cv S.code
  opn : kLv.R 130 w 0 oko ov (lvRow S.opn ids)
  lps : LvM w S.opn ids f
  lens : G.spots.length = G.l.length ∧ G.slots.length = G.l.length ∧ G.l.length ≤ 1048576
  fc : ∀ k, okc k → F k ∧ ¬ oko k ∧ ¬ f k
  fo : ∀ k, oko k → F k ∧ ¬ f k
  ff : ∀ k, f k → F k
  off : ∀ k, F k → k ≠ G.a ∧ k ≠ G.b1 ∧ k ≠ G.b2 ∧ k ≠ G.mb ∧ ¬ G.okl k ∧ k < w.heap.size
  offl : ∀ k, G.okl k → k ≠ G.a ∧ k < w.heap.size
  ne : G.a ≠ G.b1 ∧ G.a ≠ G.b2 ∧ G.a ≠ G.mb ∧ G.mb < w.heap.size
/-- A maker's state in memory; all that turns lies in a and in blocks of F. -/
def MS (G : MG) (w : World) (F : Nat → Prop) (ids : List (Option Nat)) (S : Mk) : Prop := ∃ okc cv oko ov f, MSi G w F ids S okc cv oko ov f
def MK (G : MG) (F : Nat → Prop) (k : Nat) : Prop := k = G.a ∨ F k
/-- What a call of a maker's comes to. -/
def MN (G : MG) (w : World) (F : Nat → Prop) (ids : List (Option Nat)) (w' : World) (S' : Mk) : Prop := ∃ F', MS G w' F' ids S' ∧ Kp (MK G F) w w' ∧ ∀ k, F' k → F k ∨ w.heap.size ≤ k
section
variable {G : MG} {w w' w'' : World} {F F' K okc oko f : Nat → Prop} {ids : List (Option Nat)} {S S' : Mk} {cv ov : Value}
theorem MapF.block {mb : Nat} {funs : Nat → Int} (h : MapF w mb funs) (hb : w'.heap[mb]? = w.heap[mb]?) : MapF w' mb funs := by
  obtain ⟨n, D, ⟨es, clock, hc, r⟩, hD⟩ := h
  exact ⟨n, D, ⟨es, clock, hb.trans hc, r⟩, hD⟩
theorem MSi.lt (h : MSi G w F ids S okc cv oko ov f) : G.a < w.heap.size ∧ G.b1 < w.heap.size ∧ G.b2 < w.heap.size := ⟨(Array.getElem?_eq_some_iff.1 h.cell).1, (Array.getElem?_eq_some_iff.1 h.sp).1, (Array.getElem?_eq_some_iff.1 h.sl).1⟩
theorem MSi.kp (h : MSi G w F ids S okc cv oko ov f) (hk : Kp K w w') (h1 : ¬ K G.a ∧ ¬ K G.b1 ∧ ¬ K G.b2 ∧ ¬ K G.mb) (h2 : ∀ k, G.okl k → ¬ K k) (h3 : ∀ k, F k → ¬ K k) : MSi G w' F ids S okc cv oko ov f :=
  have st : ∀ k, F k → w'.heap[k]? = w.heap[k]? := fun k hf => hk.block k (h.off k hf).2.2.2.2.2 (h3 k hf)
  ⟨hk.heap h.cell h1.1, Kd.N_kept h.nodes hk.kept h2, hk.heap h.sp h1.2.1, hk.heap h.sl h1.2.2.1, h.mp.block (hk.block _ h.ne.2.2.2 h1.2.2.2), Kd.R_step h.code (fun k q _ => st k (h.fc k q).1), Kd.R_step h.opn (fun k q _ => st k (h.fo k q).1), h.lps.step hk.size (fun k q => st k (h.ff k q)), h.lens, h.fc, h.fo, h.ff,
    fun k q => by obtain ⟨a, b, c, d, e, g⟩ := h.off k q; exact ⟨a, b, c, d, e, Nat.lt_of_lt_of_le g hk.size⟩, fun k q => ⟨(h.offl k q).1, Nat.lt_of_lt_of_le (h.offl k q).2 hk.size⟩, ⟨h.ne.1, h.ne.2.1, h.ne.2.2.1, Nat.lt_of_lt_of_le h.ne.2.2.2 hk.size⟩⟩
theorem MS.kp (h : MS G w F ids S) (hk : Kp K w w') (h1 : ¬ K G.a ∧ ¬ K G.b1 ∧ ¬ K G.b2 ∧ ¬ K G.mb) (h2 : ∀ k, G.okl k → ¬ K k) (h3 : ∀ k, F k → ¬ K k) : MS G w' F ids S := by
  obtain ⟨okc, cv, oko, ov, f, h⟩ := h
  exact ⟨okc, cv, oko, ov, f, h.kp hk h1 h2 h3⟩
theorem MS.below (h : MS G w F ids S) (hb : Below w.heap.size w w') : MS G w' F ids S := h.kp (K := fun _ => False) (Kp.of_below hb) ⟨id, id, id, id⟩ (fun _ _ => id) (fun _ _ => id)
theorem MS.lt (h : MS G w F ids S) : G.a < w.heap.size ∧ G.b1 < w.heap.size ∧ G.b2 < w.heap.size ∧ G.mb < w.heap.size := by
  obtain ⟨okc, cv, oko, ov, f, h⟩ := h
  exact ⟨h.lt.1, h.lt.2.1, h.lt.2.2, h.ne.2.2.2⟩
theorem MS.off (h : MS G w F ids S) : ∀ k, F k → k ≠ G.a ∧ k ≠ G.b1 ∧ k ≠ G.b2 ∧ k ≠ G.mb ∧ ¬ G.okl k ∧ k < w.heap.size := by
  obtain ⟨okc, cv, oko, ov, f, h⟩ := h
  exact h.off
theorem MS.offl (h : MS G w F ids S) : ∀ k, G.okl k → k ≠ G.a ∧ ¬ F k ∧ k < w.heap.size := by
  obtain ⟨okc, cv, oko, ov, f, h⟩ := h
  exact fun k q => ⟨(h.offl k q).1, fun e => (h.off k e).2.2.2.2.1 q, (h.offl k q).2⟩
theorem MS.nodes (h : MS G w F ids S) : NR w G.okl G.g G.cap G.l := by
  obtain ⟨okc, cv, oko, ov, f, h⟩ := h
  exact h.nodes
theorem MS.sp (h : MS G w F ids S) : w.heap[G.b1]? = some (.cells (spCells G.spots).toArray 85 (0, 0)) := by
  obtain ⟨okc, cv, oko, ov, f, h⟩ := h
  exact h.sp
theorem MS.sl (h : MS G w F ids S) : w.heap[G.b2]? = some (.cells (slCells G.slots).toArray 3 (0, 0)) := by
  obtain ⟨okc, cv, oko, ov, f, h⟩ := h
  exact h.sl
theorem MS.mp (h : MS G w F ids S) : MapF w G.mb G.funs := by
  obtain ⟨okc, cv, oko, ov, f, h⟩ := h
  exact h.mp
theorem MS.lens (h : MS G w F ids S) : G.spots.length = G.l.length ∧ G.slots.length = G.l.length ∧ G.l.length ≤ 1048576 := by
  obtain ⟨okc, cv, oko, ov, f, h⟩ := h
  exact h.lens
/-- The first four cells, and that the block may be written. -/
theorem MS.c0 (h : MS G w F ids S) : w.cell? ⟨G.a, 0, none⟩ = some (.slice (some ⟨G.g, 0, none⟩) G.l.length G.cap) := by
  obtain ⟨okc, cv, oko, ov, f, h⟩ := h
  exact (cell_of_row _ _ _ _ _ _ h.cell).trans rfl
theorem MS.c1 (h : MS G w F ids S) : w.cell? ⟨G.a, 1, none⟩ = some (.slice (some ⟨G.b1, 0, none⟩) G.l.length G.l.length) := by
  obtain ⟨okc, cv, oko, ov, f, h⟩ := h
  exact (cell_of_row _ _ _ _ _ _ h.cell).trans rfl
theorem MS.c2 (h : MS G w F ids S) : w.cell? ⟨G.a, 2, none⟩ = some (.slice (some ⟨G.b2, 0, none⟩) G.l.length G.l.length) := by
  obtain ⟨okc, cv, oko, ov, f, h⟩ := h
  exact (cell_of_row _ _ _ _ _ _ h.cell).trans rfl
theorem MS.c3 (h : MS G w F ids S) : w.cell? ⟨G.a, 3, none⟩ = some (.map (some G.mb)) := by
  obtain ⟨okc, cv, oko, ov, f, h⟩ := h
  exact (cell_of_row _ _ _ _ _ _ h.cell).trans rfl
theorem MS.same (h : MS G w F ids S) : MN G w F ids w S := ⟨F, h, Kp.refl _ _, fun _ h => .inl h⟩
theorem MN.of (k1 : Kp (MK G F) w w') (s1 : ∀ k, F' k → F k ∨ w.heap.size ≤ k) (g : MN G w' F' ids w'' S') : MN G w F ids w'' S' := by
  obtain ⟨F2, h2, k2, s2⟩ := g
  exact ⟨F2, h2, k1.trans k2 (fun k hk => hk.elim (fun h => .inl (.inl h)) (fun h => (s1 k h).imp .inr id)), fun k hk => (s2 k hk).elim (s1 k) (fun h => .inr (Nat.le_trans k1.size h))⟩
theorem MN.pre (hb : Below w.heap.size w w') (h : MN G w' F ids w'' S') : MN G w F ids w'' S' := MN.of ((Kp.of_below hb).mono (fun _ h => h)) (fun _ h => .inl h) h
/-- What a maker has not in hand stays. -/
theorem Kp.offM (h : Kp (MK G F) w w') {ok : Nat → Prop} (ho : ∀ k, ok k → k ≠ G.a ∧ ¬ F k ∧ k < w.heap.size) : ∀ k, ok k → w'.heap[k]? = w.heap[k]? := fun k hk => h.block k (ho k hk).2.2 (fun q => q.elim (ho k hk).1 (ho k hk).2.1)
end
end Go.Proofs.Ytibepkblgliooaa.Q
namespace Go.Proofs.Ytibepkblgliooaa.Q
open Go.RowKit
open Go.Proofs.YtibepkblgliooaaW.PrintWords
section
variable {P : Program} {ops : Array Oper} {o : Oper} {a : Act} {Q : Exit → Act → World → Prop} {Kc : Act → World → Prop} {α : Type} {E : Prop}
/-- append in a region, whatever else is asked where it is not wanted. -/
theorem R_step_any (d : Kd α) {w0 W : World} (base : Nat) (hw : Region.wanted o (yielded ops a.tmps) = true) (s x : Operand) (t e : TypeId) (z : Value) (bytes : Nat)
    (ho : o.op = .call { callee := .builtin .append, args := #[s, x], argTypes := #[t, t] })
    (ht : P.underlying t = some (.slice e)) (hinfo : (P.info? e).map (fun i => (i.zero, i.size, i.bytes)) = some (some z, d.sz, bytes)) (hz : z.cells.size = d.sz) (hs0 : 0 < d.sz) (hb0 : 0 < bytes)
    (v : Value) (xs : List α) (p : α) (cs : List Value) (ok okp : Nat → Prop) (hs : a.eval s = v) (hx : a.eval x = .slice (some ⟨W.heap.size, 0, none⟩) 1 1) (hp : d.M W base okp p cs) (hokp : ∀ k, okp k → ok k ∧ some k ≠ v.ownBlock) (hfresh : ∀ k, W.heap.size ≤ k → ok k)
    (HO : d.R e W base ok v xs) (HB : Below base w0 W) (hbase : base ≤ W.heap.size) (hl : (xs.length + 1) * bytes ≤ 140737488355328)
    (h : ∀ v1 w1, d.R e w1 base ok v1 (xs ++ [p]) → Below base w0 w1 → W.grownBy w1 v.ownBlock → (v1.ownBlock = v.ownBlock ∨ ∃ b, v1.ownBlock = some b ∧ W.heap.size ≤ b) → Kc (a.put o.dst v1) w1) :
    if Region.wanted o (yielded ops a.tmps) = true then Oper.wp P o a (W.alloc (.cells cs.toArray e)) Kc Q else E := by
  have h1 := Kd.R_append_step (P := P) (Q := Q) d base hw s x t e z bytes ho ht hinfo hz hs0 hb0 v xs p cs ok okp hs hx hp hokp hfresh HO HB hbase hl h
  rw [if_pos hw] at h1 ⊢
  exact h1
end
theorem cells4 (w : World) (x0 x1 x2 x3 : Value) (T : TypeId) : (w.alloc (.cells #[x0, x1, x2, x3] T)).cell? ⟨w.heap.size, 0, none⟩ = some x0 ∧ (w.alloc (.cells #[x0, x1, x2, x3] T)).cell? ⟨w.heap.size, 1, none⟩ = some x1 ∧ (w.alloc (.cells #[x0, x1, x2, x3] T)).cell? ⟨w.heap.size, 2, none⟩ = some x2 ∧ (w.alloc (.cells #[x0, x1, x2, x3] T)).cell? ⟨w.heap.size, 3, none⟩ = some x3 := by
  have h := heap_alloc_new w (.cells #[x0, x1, x2, x3] T)
  exact ⟨(cell_of_row _ _ 0 _ _ _ h).trans rfl, (cell_of_row _ _ 1 _ _ _ h).trans rfl, (cell_of_row _ _ 2 _ _ _ h).trans rfl, (cell_of_row _ _ 3 _ _ _ h).trans rfl⟩
theorem put_some {S S' : Mk} {x : Ins} (h : S.put x = some S') : S.code.length < capC ∧ S' = { S with code := S.code ++ [x] } := by
  unfold Mk.put at h
  split at h
  · rename_i h1
    injection h with h
    exact ⟨h1, h.symm⟩
  · cases h
section
variable {G : MG} {w w' : World} {F : Nat → Prop} {ids : List (Option Nat)} {S S' : Mk} {x : Ins}
set_option maxHeartbeats 1600000 in
set_option maxRecDepth 100000 in
theorem add_i {okc oko f : Nat → Prop} {cv ov : Value} (h : MSi G w F ids S okc cv oko ov f) (hs : S.put x = some S') :
    Calls Try.prog 47 #[.pointer (some ⟨G.a, 4, none⟩), .agg #[.int .i64 x.op, .int .i64 x.a, .int .i64 x.b, .string x.s]] w fun e w' => e = .returned (.int .i64 S.code.length) ∧ ∃ F' okc' cv', MSi G w' F' ids S' okc' cv' oko ov f ∧ Kp (fun k => k = G.a ∨ okc k) w w' ∧ ∀ k, F' k → F k ∨ w.heap.size ≤ k := by
  obtain ⟨hlen, rfl⟩ := put_some hs
  unfold capC at hlen
  have hbW : Below w.heap.size w (w.alloc (.cells #[.int .i64 x.op, .int .i64 x.a, .int .i64 x.b, .string x.s] 42)) := (Below.refl _ _).alloc (Nat.le_refl _) _
  obtain ⟨y0, y1, y2, y3⟩ := cells4 w (.int .i64 x.op) (.int .i64 x.a) (.int .i64 x.b) (.string x.s) 42
  have hPW := h.kp (K := fun _ => False) (Kp.of_below hbW) ⟨id, id, id, id⟩ (fun _ _ => id) (fun _ _ => id)
  have c4 : (w.alloc (.cells #[.int .i64 x.op, .int .i64 x.a, .int .i64 x.b, .string x.s] 42)).cell? ⟨G.a, 4, none⟩ = some cv := (cell_of_row _ _ _ _ _ _ hPW.cell).trans rfl
  have hne : cv.ownBlock ≠ some w.heap.size := fun e => by have := Kd.R_lt h.code _ e; omega
  have hna : cv.ownBlock ≠ some G.a := fun e => (h.off _ (h.fc _ (h.code.1 _ e)).1).1 rfl
  have HB := hid hbW
  have HA := hid hna
  have HY0 := hid hne
  have HP0 := hid hPW
  have H0 := hid h
  have HL := hid hlen
  have hlt := h.lt.1
  have hsz : (w.alloc (.cells #[.int .i64 x.op, .int .i64 x.a, .int .i64 x.b, .string x.s] 42)).heap.size = w.heap.size + 1 := by simp
  clear h hs hlen hbW hPW hne hna
  go_enter Try.func47, Try.ntmps47
  go_upto_region 1 with fail
  have HSZ := hid hsz
  obtain ⟨b, hb⟩ : ∃ b, b = w.heap.size := ⟨_, rfl⟩
  rw [← hb] at y0 y1 y2 y3 HY0 ⊢
  generalize (w.alloc (.cells #[.int .i64 x.op, .int .i64 x.a, .int .i64 x.b, .string x.s] 42)) = W at y0 y1 y2 y3 c4 HB HP0 HSZ ⊢
  have HEB := hid hb
  clear hb hsz
  obtain ⟨ok2, hok2⟩ : ∃ ok2 : Nat → Prop, ok2 = fun k => okc k ∨ w.heap.size ≤ k := ⟨_, rfl⟩
  have HOK := hid hok2
  clear hok2
  have HF : Box (∀ k, W.drew.heap.size ≤ k → ok2 k) := hid (fun k hk => by rw [HOK.out]; exact .inr (Nat.le_trans HB.out.size hk))
  have HN : Box (kIns.R 42 W.drew 0 ok2 cv S.code) := hid (Kd.R_drew (Kd.R_mono HP0.out.code (fun k hk => by rw [HOK.out]; exact .inl hk)))
  have HY := HY0
  refine wp_region_until [10] (S := (fun w' => w'.cell? ⟨G.a, 4, none⟩ = some (cv) ∧ w'.cell? ⟨b, 0, none⟩ = some (.int .i64 x.op) ∧ w'.cell? ⟨b, 1, none⟩ = some (.int .i64 x.a) ∧ w'.cell? ⟨b, 2, none⟩ = some (.int .i64 x.b) ∧ w'.cell? ⟨b, 3, none⟩ = some (.string x.s))) (by kernel_rfl) ?_ ?_
  · go_keep
  intro hS
  refine wpAnyU_take (i := 0) (v := (.pointer (some ⟨G.a, 4, none⟩))) rfl (by kernel_rfl) (fun _ _ _ h => h) (leads_of [[10]] (by kernel_rfl)) (by kernel_rfl) (by kernel_rfl) (by kernel_rfl) (Or.inl ⟨by rfl, ?_⟩) hS ?_
  · intro w' hS'
    obtain ⟨s0, s1, s2, s3, s4⟩ := hS'
    go_simp
  change wpAnyU _ _ _ _ _ _ _ _ (Act.put _ (some 5) _) _
  simp only [Act.put, List.setIfInBounds_toArray, List.set_cons_succ, List.set_cons_zero]
  refine wpAnyU_take (i := 1) (v := (.pointer (some ⟨G.a, 4, none⟩))) rfl (by kernel_rfl) (fun _ _ _ h => h) (leads_of [[10]] (by kernel_rfl)) (by kernel_rfl) (by kernel_rfl) (by kernel_rfl) (Or.inl ⟨by rfl, ?_⟩) hS ?_
  · intro w' hS'
    obtain ⟨s0, s1, s2, s3, s4⟩ := hS'
    go_simp
  change wpAnyU _ _ _ _ _ _ _ _ (Act.put _ (some 6) _) _
  simp only [Act.put, List.setIfInBounds_toArray, List.set_cons_succ, List.set_cons_zero]
  refine wpAnyU_take (i := 2) (v := (.pointer (some ⟨G.a, 4, none⟩))) rfl (by kernel_rfl) (fun _ _ _ h => h) (leads_of [[10]] (by kernel_rfl)) (by kernel_rfl) (by kernel_rfl) (by kernel_rfl) (Or.inl ⟨by rfl, ?_⟩) hS ?_
  · intro w' hS'
    obtain ⟨s0, s1, s2, s3, s4⟩ := hS'
    go_simp
  change wpAnyU _ _ _ _ _ _ _ _ (Act.put _ (some 7) _) _
  simp only [Act.put, List.setIfInBounds_toArray, List.set_cons_succ, List.set_cons_zero]
  refine wpAnyU_take (i := 3) (v := (.pointer (some ⟨G.a, 4, none⟩))) rfl (by kernel_rfl) (fun _ _ _ h => h) (leads_of [[10]] (by kernel_rfl)) (by kernel_rfl) (by kernel_rfl) (by kernel_rfl) (Or.inl ⟨by rfl, ?_⟩) hS ?_
  · intro w' hS'
    obtain ⟨s0, s1, s2, s3, s4⟩ := hS'
    go_simp
  change wpAnyU _ _ _ _ _ _ _ _ (Act.put _ (some 8) _) _
  simp only [Act.put, List.setIfInBounds_toArray, List.set_cons_succ, List.set_cons_zero]
  refine wpAnyU_take (i := 4) (v := (cv)) rfl (by kernel_rfl) (fun _ _ _ h => h) (leads_of [[10]] (by kernel_rfl)) (by kernel_rfl) (by kernel_rfl) (by kernel_rfl) (Or.inl ⟨by rfl, ?_⟩) hS ?_
  · intro w' hS'
    obtain ⟨s0, s1, s2, s3, s4⟩ := hS'
    go_simp
  change wpAnyU _ _ _ _ _ _ _ _ (Act.put _ (some 9) _) _
  simp only [Act.put, List.setIfInBounds_toArray, List.set_cons_succ, List.set_cons_zero]
  refine wpAnyU_take (i := 5) (v := (.agg #[.int .i64 x.op, .int .i64 x.a, .int .i64 x.b, .string x.s])) rfl (by kernel_rfl) (fun _ _ _ h => h) (leads_of [[10]] (by kernel_rfl)) (by kernel_rfl) (by kernel_rfl) (by kernel_rfl) (Or.inl ⟨by rfl, ?_⟩) hS ?_
  · intro w' hS'
    obtain ⟨s0, s1, s2, s3, s4⟩ := hS'
    go_simp
  change wpAnyU _ _ _ _ _ _ _ _ (Act.put _ (some 10) _) _
  simp only [Act.put, List.setIfInBounds_toArray, List.set_cons_succ, List.set_cons_zero]
  refine wpAnyU_all (rs := [6]) (by kernel_rfl) (by simp) ?_
  intro j hj
  obtain rfl := List.mem_singleton.1 hj
  clear hj
  refine wpOp_shut rfl (fun K' HK => ?_)
  go_simp
  have HB6 := hid (below_alloc (Below.refl W.drew.heap.size W.drew) (.cells #[.int .i64 x.op, .int .i64 x.a, .int .i64 x.b, .string x.s] 42))
  refine HK.out _ _ ⟨.inr ?_, ?_⟩
  · exact ⟨keepc HB6.out c4, keepc HB6.out y0, keepc HB6.out y1, keepc HB6.out y2, keepc HB6.out y3⟩
  clear HK K'
  have hS := And.intro (keepc HB6.out c4) (And.intro (keepc HB6.out y0) (And.intro (keepc HB6.out y1) (And.intro (keepc HB6.out y2) (keepc HB6.out y3))))
  try simp only [Act.put, List.setIfInBounds_toArray, List.set_cons_succ, List.set_cons_zero]
  refine wpAnyU_all (rs := [7]) (by kernel_rfl) (by simp) ?_
  intro j hj
  obtain rfl := List.mem_singleton.1 hj
  clear hj
  refine wpOp_shut rfl (fun K' HK => ?_)
  refine R_step_any kIns (w0 := W) (W := W.drew) 0 ?h0 (.tmp 9) (.tmp 11) 38 42 _ 40 ?h1 Try.underlying38 infoIns rfl (by decide) (by decide) cv S.code x (insCs x) ok2 (fun _ => False) ?c1 ?c2 ?c3 ?c4 ?c5 ?c6 ?c7 ?c8 ?c9 ?c10
  (case h0 => rfl)
  (case h1 => rfl)
  (case c1 => rfl)
  (case c2 => rfl)
  (case c3 => exact kIns_M _ _ _ _)
  (case c4 => exact fun k hk => hk.elim)
  (case c5 => exact HF.out)
  (case c6 => exact HN.out)
  (case c7 => exact (Below.refl 0 W).drew)
  (case c8 => exact Nat.zero_le _)
  (case c9 => have := HL.out; omega)
  intro v1 w1 hN hB hg hat
  obtain ⟨A1, cap1, rfl⟩ := Kd.R_slice hN
  rw [List.length_append, List.length_singleton] at hN ⊢
  have HN1 := hid hN
  have HG1 := hid hg
  have hc1 := (hg.block G.a (Nat.lt_of_lt_of_le hlt HB.out.size) (fun e => HA.out e.symm)).trans HP0.out.cell
  have f7 : w1.frozen? ⟨G.a, 4, none⟩ = false := by simp [World.frozen?, show w1.heap[G.a]? = _ from hc1]
  have HC1 := hid (show w1.heap[G.a]? = _ from hc1)
  clear hc1
  clear hN hB hg hat
  have z7 := keepg HG1.out HA.out c4
  have z10 := keepg HG1.out HY.out y0
  have z11 := keepg HG1.out HY.out y1
  have z12 := keepg HG1.out HY.out y2
  have z13 := keepg HG1.out HY.out y3
  refine HK.out _ _ ⟨.inr ?_, ?_⟩
  · exact ⟨z7, z10, z11, z12, z13⟩
  clear HK K'
  have hS := And.intro (z7) (And.intro (z10) (And.intro (z11) (And.intro (z12) (z13))))
  change wpAnyU _ _ _ _ _ _ _ _ (Act.put _ (some 12) _) _
  simp only [Act.put, List.setIfInBounds_toArray, List.set_cons_succ, List.set_cons_zero]
  refine wpAnyU_take (i := 8) (v := (.pointer (some ⟨G.a, 4, none⟩))) rfl (by kernel_rfl) (fun _ _ _ h => h) (leads_of [[9, 10]] (by kernel_rfl)) (by kernel_rfl) (by kernel_rfl) (by kernel_rfl) (Or.inl ⟨by rfl, ?_⟩) hS ?_
  · intro w' hS'
    obtain ⟨s0, s1, s2, s3, s4⟩ := hS'
    go_simp
  change wpAnyU _ _ _ _ _ _ _ _ (Act.put _ (some 13) _) _
  simp only [Act.put, List.setIfInBounds_toArray, List.set_cons_succ, List.set_cons_zero]
  refine wpAnyU_take (i := 9) (v := (.pointer (some ⟨G.a, 4, none⟩))) rfl (by kernel_rfl) (fun _ _ _ h => h) (leads_of [[10]] (by kernel_rfl)) (by kernel_rfl) (by kernel_rfl) (by kernel_rfl) (Or.inl ⟨by rfl, ?_⟩) hS ?_
  · intro w' hS'
    obtain ⟨s0, s1, s2, s3, s4⟩ := hS'
    go_simp
  change wpAnyU _ _ _ _ _ _ _ _ (Act.put _ (some 14) _) _
  simp only [Act.put, List.setIfInBounds_toArray, List.set_cons_succ, List.set_cons_zero]
  refine wpAnyU_all (rs := [10]) (by kernel_rfl) (by simp) ?_
  intro j hj
  obtain rfl := List.mem_singleton.1 hj
  clear hj
  refine wpOp_shut rfl (fun K' HK => ?_)
  go_simp
  refine HK.out _ _ ⟨.inl (by decide), ?_⟩
  clear HK K'
  refine wpAnyU_done (by kernel_rfl) ?_ _
  have hI := HP0.out
  have hkp : Kp (fun k => k = G.a ∨ okc k) w (w1.setCell ⟨G.a, 4, none⟩ (.slice A1 (S.code.length + 1) cap1)) :=
    ((Kp.of_below HB.out.drew).trans (Kp.grown (K := fun k => k = G.a ∨ okc k) (w := W.drew) HG1.out (fun k e => .inr (H0.out.code.1 k e))) (fun _ h => .inl h)).trans (Kp.set (K := fun k => k = G.a ∨ okc k) _ (.inl rfl)) (fun _ h => .inl h)
  have hfin : MSi G (w1.setCell ⟨G.a, 4, none⟩ (.slice A1 (S.code.length + 1) cap1)) (fun k => (F k ∨ w.heap.size ≤ k) ∧ k < w1.heap.size) ids { S with code := S.code ++ [x] } (fun k => ok2 k ∧ k < w1.heap.size) (.slice A1 (S.code.length + 1) cap1) oko ov f := by
    have hi := H0.out
    have hlts := hi.lt
    have hmb := hi.ne.2.2.2
    have hF : ∀ k, F k → k < w.heap.size := fun k q => (hi.off k q).2.2.2.2.2
    have hw1 : w.heap.size ≤ w1.heap.size := Nat.le_trans HB.out.size HG1.out.size
    have keep : ∀ k, k < w.heap.size → k ≠ G.a → ¬ okc k → (w1.setCell ⟨G.a, 4, none⟩ (.slice A1 (S.code.length + 1) cap1)).heap[k]? = w.heap[k]? := fun k q1 q2 q3 => (Below.heap_setCell _ _ _ _ (fun e => q2 e)).trans ((HG1.out.block k (Nat.lt_of_lt_of_le q1 HB.out.size) (fun e => q3 (hi.code.1 k e.symm))).trans (HB.out.block k q1))
    have nF : ∀ k, F k → ¬ okc k → k < w.heap.size ∧ k ≠ G.a := fun k q1 _ => ⟨hF k q1, (hi.off k q1).1⟩
    have ocF : ∀ k, okc k → F k := fun k q => (hi.fc k q).1
    refine ⟨blk_put HC1.out 4 _ rfl, Kd.N_kept hi.nodes hkp.kept (fun j hj q => q.elim (hi.offl j hj).1 (fun e => (hi.off j (ocF j e)).2.2.2.2.1 hj)), (keep _ hlts.2.1 hi.ne.1.symm (fun e => (hi.off _ (ocF _ e)).2.1 rfl)).trans hi.sp, (keep _ hlts.2.2 hi.ne.2.1.symm (fun e => (hi.off _ (ocF _ e)).2.2.1 rfl)).trans hi.sl, hi.mp.block (keep _ hmb hi.ne.2.2.1.symm (fun e => (hi.off _ (ocF _ e)).2.2.2.1 rfl)), ?_, ?_, ?_, hi.lens, ?_, ?_, ?_, ?_, ?_, ?_⟩
    · refine Kd.R_mono (Kd.R_step (Kd.R_bound HN1.out) (fun k hk _ => Below.heap_setCell _ _ _ _ (fun e => ?_))) (fun k hk => ⟨hk.1, hk.2.2.1⟩)
      have hk1 := hk.1
      rw [HOK.out] at hk1
      have e2 : k = G.a := e
      exact hk1.elim (fun q => (hi.off k (ocF k q)).1 e2) (fun q => by omega)
    · exact Kd.R_step hi.opn (fun k q _ => keep k (nF k (hi.fo k q).1 (fun e => (hi.fc k e).2.1 q)).1 (hi.off k (hi.fo k q).1).1 (fun e => (hi.fc k e).2.1 q))
    · exact hi.lps.step (by simpa using hw1) (fun k q => keep k (hF k (hi.ff k q)) (hi.off k (hi.ff k q)).1 (fun e => (hi.fc k e).2.2 q))
    · rintro k ⟨q, q2⟩
      rw [HOK.out] at q
      exact ⟨⟨q.imp (ocF k) id, q2⟩, fun e => q.elim (fun q => (hi.fc k q).2.1 e) (fun q => by have := hF k (hi.fo k e).1; omega), fun e => q.elim (fun q => (hi.fc k q).2.2 e) (fun q => by have := hF k (hi.ff k e); omega)⟩
    · exact fun k q => ⟨⟨.inl (hi.fo k q).1, by have := hF k (hi.fo k q).1; omega⟩, (hi.fo k q).2⟩
    · exact fun k q => ⟨.inl (hi.ff k q), by have := hF k (hi.ff k q); omega⟩
    · rintro k ⟨q, q2⟩
      rcases q with q | q
      · obtain ⟨a1, a2, a3, a4, a5, a6⟩ := hi.off k q
        exact ⟨a1, a2, a3, a4, a5, by simpa using q2⟩
      · exact ⟨by omega, by omega, by omega, by omega, fun e => by have := (hi.offl k e).2; omega, by simpa using q2⟩
    · exact fun k q => ⟨(hi.offl k q).1, by have := (hi.offl k q).2; simp; omega⟩
    · exact ⟨hi.ne.1, hi.ne.2.1, hi.ne.2.2.1, by simp; omega⟩
  have c4' : (w1.setCell ⟨G.a, 4, none⟩ (.slice A1 (S.code.length + 1) cap1)).cell? ⟨G.a, 4, none⟩ = some (.slice A1 (S.code.length + 1) cap1) := (cell_of_row _ _ _ _ _ _ hfin.cell).trans rfl
  have HFIN := hid hfin
  have HKP := hid hkp
  have hl1 := HL.out
  clear hfin hkp hI HN1 HG1 HF HN hS y0 y1 y2 y3 c4 f7 HC1 z7 z10 z11 z12 z13
  go_wp2_with fail
  go_ret
  exact ⟨ret_nat (by omega), _, _, _, HFIN.out, HKP.out, fun k hk => hk.1⟩
theorem add_c (h : MS G w F ids S) (hs : S.put x = some S') :
    Calls Try.prog 47 #[.pointer (some ⟨G.a, 4, none⟩), .agg #[.int .i64 x.op, .int .i64 x.a, .int .i64 x.b, .string x.s]] w fun e w' => e = .returned (.int .i64 S.code.length) ∧ MN G w F ids w' S' := by
  obtain ⟨okc, cv, oko, ov, f, h⟩ := h
  refine (add_i h hs).mono fun e w' q => ?_
  obtain ⟨q1, F', okc', cv', h', hk, hs'⟩ := q
  exact ⟨q1, F', ⟨_, _, _, _, _, h'⟩, hk.mono (fun k e => e.imp id (fun e => (h.fc k e).1)), hs'⟩
end
end Go.Proofs.Ytibepkblgliooaa.Q
namespace Go.Proofs.Ytibepkblgliooaa.Q
open Go.RowKit
open Go.Proofs.YtibepkblgliooaaW.PrintWords
section
variable {G : MG} {w w' : World} {F K okc oko f okj : Nat → Prop} {ids : List (Option Nat)} {S S' : Mk} {cv ov : Value} {x : Ins}
set_option maxHeartbeats 800000 in
set_option maxRecDepth 100000 in
theorem mput_i (h : MSi G w F ids S okc cv oko ov f) {op : Int} (hs : S.put (iN op 0) = some S') : Calls Try.prog 24 #[ptr G.a, .int .i64 op] w fun e w' => e = .returned (.int .i64 S.code.length) ∧ ∃ F' okc' cv', MSi G w' F' ids S' okc' cv' oko ov f ∧ Kp (fun k => k = G.a ∨ okc k) w w' ∧ ∀ k, F' k → F k ∨ w.heap.size ≤ k := by
  have hc := add_i h hs
  unfold iN at hc
  have HC := hid hc
  clear h hs hc
  unfold ptr
  go_enter Try.func24, Try.ntmps24
  go_wp2_with fail
  refine HC.out.mono ?_
  rintro e w1 ⟨rfl, hN⟩
  have HN := hid hN
  clear hN
  go_wp2_with fail
  go_ret
  exact ⟨rfl, HN.out⟩
set_option maxHeartbeats 800000 in
set_option maxRecDepth 100000 in
theorem mput_c (h : MS G w F ids S) {op : Int} (hs : S.put (iN op 0) = some S') : Calls Try.prog 24 #[ptr G.a, .int .i64 op] w fun e w' => e = .returned (.int .i64 S.code.length) ∧ MN G w F ids w' S' := by
  have hc := add_c h hs
  unfold iN at hc
  have HC := hid hc
  clear h hs hc
  unfold ptr
  go_enter Try.func24, Try.ntmps24
  go_wp2_with fail
  refine HC.out.mono ?_
  rintro e w1 ⟨rfl, hN⟩
  have HN := hid hN
  clear hN
  go_wp2_with fail
  go_ret
  exact ⟨rfl, HN.out⟩
set_option maxHeartbeats 800000 in
set_option maxRecDepth 100000 in
theorem mnum_c (h : MS G w F ids S) {op a : Int} (hs : S.put (iN op a) = some S') : Calls Try.prog 45 #[ptr G.a, .int .i64 op, .int .i64 a] w fun e w' => e = .returned (.int .i64 S.code.length) ∧ MN G w F ids w' S' := by
  have hc := add_c h hs
  unfold iN at hc
  have HC := hid hc
  clear h hs hc
  unfold ptr
  go_enter Try.func45, Try.ntmps45
  go_wp2_with fail
  refine HC.out.mono ?_
  rintro e w1 ⟨rfl, hN⟩
  have HN := hid hN
  clear hN
  go_wp2_with fail
  go_ret
  exact ⟨rfl, HN.out⟩
set_option maxHeartbeats 800000 in
set_option maxRecDepth 100000 in
theorem mtext_c (h : MS G w F ids S) {op : Int} {s : ByteArray} (hs : S.put (iS op s) = some S') : Calls Try.prog 58 #[ptr G.a, .int .i64 op, .string s] w fun e w' => e = .returned (.int .i64 S.code.length) ∧ MN G w F ids w' S' := by
  have hc := add_c h hs
  unfold iS at hc
  have HC := hid hc
  clear h hs hc
  unfold ptr
  go_enter Try.func58, Try.ntmps58
  go_wp2_with fail
  refine HC.out.mono ?_
  rintro e w1 ⟨rfl, hN⟩
  have HN := hid hN
  clear hN
  go_wp2_with fail
  go_ret
  exact ⟨rfl, HN.out⟩
/-- The instructions' row turns where it lies. -/
theorem MSi.codeSet (h : MSi G w F ids S okc cv oko ov f) {code' : List Ins} (hR : kIns.R 42 w' 0 okc cv code') (hk : Kp K w w') (hK : ∀ k, K k → okc k) : MSi G w' F ids { S with code := code' } okc cv oko ov f :=
  have st : ∀ k, k < w.heap.size → ¬ okc k → w'.heap[k]? = w.heap[k]? := fun k hl hn => hk.block k hl (fun q => hn (hK k q))
  have nc : ∀ k, okc k → k ≠ G.a ∧ k ≠ G.b1 ∧ k ≠ G.b2 ∧ k ≠ G.mb ∧ ¬ G.okl k ∧ k < w.heap.size := fun k q => h.off k (h.fc k q).1
  ⟨(st _ h.lt.1 (fun q => (nc _ q).1 rfl)).trans h.cell, Kd.N_kept h.nodes hk.kept (fun k q e => (nc k (hK k e)).2.2.2.2.1 q), (st _ h.lt.2.1 (fun q => (nc _ q).2.1 rfl)).trans h.sp, (st _ h.lt.2.2 (fun q => (nc _ q).2.2.1 rfl)).trans h.sl, h.mp.block (st _ h.ne.2.2.2 (fun q => (nc _ q).2.2.2.1 rfl)), hR,
    Kd.R_step h.opn (fun k q l => st k l (fun e => (h.fc k e).2.1 q)), h.lps.step hk.size (fun k q => st k (h.off k (h.ff k q)).2.2.2.2.2 (fun e => (h.fc k e).2.2 q)), h.lens, h.fc, h.fo, h.ff,
    fun k q => by obtain ⟨a, b, c, d, e, g⟩ := h.off k q; exact ⟨a, b, c, d, e, Nat.lt_of_lt_of_le g hk.size⟩, fun k q => ⟨(h.offl k q).1, Nat.lt_of_lt_of_le (h.offl k q).2 hk.size⟩, ⟨h.ne.1, h.ne.2.1, h.ne.2.2.1, Nat.lt_of_lt_of_le h.ne.2.2.2 hk.size⟩⟩
/-- An instruction's number is set. -/
theorem MSi.setA (h : MSi G w F ids S okc cv oko ov f) {j : Nat} (hx : S.code[j]? = some x) (v : Int) : ∃ g c, cv = .slice (some ⟨g, 0, none⟩) S.code.length c ∧ okc g ∧ w.cell? ⟨g, j * 4 + 1, none⟩ = some (.int .i64 x.a) ∧ w.frozen? ⟨g, j * 4 + 1, none⟩ = false ∧ ∀ w1, Below w.heap.size w w1 → MSi G (w1.setCell ⟨g, j * 4 + 1, none⟩ (.int .i64 v)) F ids { S with code := S.code.set j { x with a := v } } okc cv oko ov f := by
  have hlt := (List.getElem?_eq_some_iff.1 hx).1
  obtain ⟨g, c, rfl, _⟩ := Kd.R_form h.code (by omega)
  have hg : okc g := h.code.1 g rfl
  refine ⟨g, c, rfl, hg, ?_⟩
  have el : ∀ w1, Below w.heap.size w w1 → ∃ cs, cs = insCs x ∧ (∀ i u, cs[i]? = some u → w1.cell? ⟨g, j * 4 + i, none⟩ = some u) ∧ ∀ i, w1.frozen? ⟨g, j * 4 + i, none⟩ = false := fun w1 hb => by
    obtain ⟨cs, hl, hM, hc, hf⟩ := Kd.R_elem (Kd.R_below h.code hb) x (j : Int) (by omega) (by omega)
    have hx' : S.code.getD ((j : Int)).toNat x = x := by simp [List.getD_eq_getElem?_getD, hx]
    rw [hx'] at hM
    exact ⟨cs, kIns_K (kIns.K_of_M hM), fun i u hu => hc i u hu, fun i => hf i⟩
  obtain ⟨cs, rfl, hc, hf⟩ := el w (Below.refl _ _)
  refine ⟨hc 1 _ rfl, hf 1, fun w1 hb => ?_⟩
  obtain ⟨cs, rfl, hc, _⟩ := el w1 hb
  obtain ⟨hR, hg1⟩ := Kd.R_seg (Kd.R_below h.code hb) (j : Int) (by omega) (by omega) (c := insCs x) (seg := [.int .i64 v]) (j := 1) (x' := { x with a := v }) (okp := fun _ => False) rfl (fun i u hu => hc i u hu) (by show 1 + 1 ≤ 4; decide) (kIns_M _ _ _ _) (fun _ hk => hk.elim)
  exact (h.kp (K := fun _ => False) (Kp.of_below hb) ⟨id, id, id, id⟩ (fun _ _ => id) (fun _ _ => id)).codeSet hR (Kp.set (K := fun k => k = g) (p := ⟨g, j * 4 + 1, none⟩) _ rfl) (fun k e => e ▸ hg)
set_option maxHeartbeats 1600000 in
set_option maxRecDepth 100000 in
theorem here_c {js : List Nat} {A : Option Addr} {c : Nat} (h : MS G w F ids S) (hr : hereF js S = some S') (hj : Kd.F (Kd.int .i64) w okj A js.length (ints js)) (ho : ∀ k, okj k → k ≠ G.a ∧ ¬ F k ∧ k < w.heap.size) :
    Calls Try.prog 81 #[ptr G.a, .slice A js.length c] w fun e w' => e = .returned (.tuple #[]) ∧ MN G w F ids w' S' := by
  have hmax : js.length ≤ 9223372036854775807 := Kd.F_max hj
  have HK := hid hj
  have HO := hid ho
  have HR := hid hr
  have HS := hid h.same
  clear h hr hj ho
  unfold ptr
  go_enter Try.func81, Try.ntmps81
  go_wp2_with fail
  go_loopw [8] (fun x wx => ∃ (j : Nat) (T : Mk), j ≤ js.length ∧ x = .int .i64 j ∧ Box (MN G w F ids wx T) ∧ Box (hereF (js.drop j) T = some S')) (fun x _ => js.length - (RowKit.intOf x).toNat)
  case atStart => exact ⟨0, S, Nat.zero_le _, rfl, HS, HR⟩
  case round =>
    clear HR HS
    obtain ⟨j, T, hj, rfl, HT, HR⟩ := hrel
    rcases Nat.lt_or_ge j js.length with hlt | hge
    · have hlt' : (j : Int) < (js.length : Int) := by omega
      obtain ⟨F1, ⟨oc, cv, oo, ov, f, h1⟩, k1, s1⟩ := id HT.out
      have hk1 := Kd.F_step HK.out (W1 := wr) (fun j hj _ => k1.offM HO.out j hj)
      obtain ⟨ad, rfl, hc⟩ := Kd.at_int (Kd.F_now hk1) (j : Int) (by omega) (by omega)
      have hx : rd (ints js) (j : Int) = (js[j] : Int) := by unfold rd ints; simp [hlt]
      rw [hx, Int.toNat_natCast] at hc
      have hr := HR.out
      rw [List.drop_eq_getElem_cons hlt] at hr
      unfold hereF at hr
      obtain ⟨x, ht, hr⟩ := Option.bind_eq_some_iff.1 hr
      generalize js[j] = k at hc ht hr
      obtain ⟨g, c, rfl, hg, c1, f1, hset⟩ := h1.setA ht (T.code.length : Int)
      have hkl := (List.getElem?_eq_some_iff.1 ht).1
      have hkl' : (k : Int) < (T.code.length : Int) := by omega
      have c4 : wr.cell? ⟨G.a, 4, none⟩ = some (.slice (some ⟨g, 0, none⟩) T.code.length c) := (cell_of_row _ _ _ _ _ _ h1.cell).trans rfl
      have HSET := hid hset
      have HR2 := hid hr
      have H1 := hid h1
      have K1 := hid k1
      have S1 := hid s1
      have HG := hid hg
      clear hx hr ht HR HT h1 k1 s1 hk1 hset hg
      go_wp2_with fail
      go_still_tail 14, (by kernel_rfl)
      change wpList _ _ _ _ _ wr.drew
      go_wp2_with fail
      have HT2 : Box (MN G w F ids (wr.drew.setCell ⟨g, k * 4 + 1, none⟩ (.int .i64 T.code.length)) { T with code := T.code.set k { x with a := (T.code.length : Int) } }) := by
        refine hid (MN.of K1.out S1.out (MN.pre (below_drew (Below.refl _ _)) ⟨F1, ⟨_, _, _, _, _, HSET.out wr.drew (below_drew (Below.refl _ _))⟩, Kp.set (K := MK G F1) (p := ⟨g, k * 4 + 1, none⟩) _ (.inr (H1.out.fc g HG.out).1), fun _ q => .inl q⟩))
      go_roundw
      case rel => exact ⟨j + 1, _, by omega, by go_num, HT2, HR2⟩
      case measure => simp [RowKit.intOf]; omega
    · obtain rfl : j = js.length := by omega
      have hr := HR.out
      rw [List.drop_length] at hr
      obtain rfl : T = S' := Option.some.inj hr
      clear hr
      go_wp2_with fail
      exact bodyPost_end (results_none rfl _ _ _) rfl ⟨rfl, HT.out⟩
end
end Go.Proofs.Ytibepkblgliooaa.Q
namespace Go.Proofs.Ytibepkblgliooaa.Q
open Go.RowKit Go.Maps
open Go.Proofs.YtibepkblgliooaaW.PrintWords
theorem intKeyed : Keyed Try.prog 3 := int_keyed Try.underlying3
theorem intZero (w : World) : (zeroValue 3).run Try.prog w = .ok (.int .i64 0) w := by
  obtain ⟨i, hi, hz, -⟩ := info_parts (show (Try.prog.info? 3).map (fun i => (i.zero, i.size, i.bytes)) = some (some (.int .i64 0), 1, 8) by kernel_rfl)
  simp [zeroValue, typeInfo, hi, hz]
theorem intKey {k : Nat} (hk : k ≤ 1048576) : keyOf Try.prog 3 (.int .i64 k) = some (.int .i64 k) := by
  have hw : (Lit.int .i64 (k : Int)).wf = true := by
    have h1 : IntKind.i64.min = -9223372036854775808 := by decide
    have h2 : IntKind.i64.max = 9223372036854775807 := by decide
    simp [Lit.wf, h1, h2]; omega
  simp [keyOf, mapKey, Try.underlying3, hw]
set_option maxRecDepth 100000 in
theorem MapF.run {w : World} {mb : Nat} {funs : Nat → Int} (h : MapF w mb funs) {k : Nat} (hk : k ≤ 1048576) : (Instr.lookup 67 (.map (some mb)) (.int .i64 k) false).run Try.prog w = .ok (.int .i64 (funs k)) w := by
  obtain ⟨n, D, ho, hD⟩ := h
  obtain ⟨c, hrun, hat, _⟩ := ho.lookup_int (t := 67) intKeyed Try.underlying67 Try.underlying3 (intZero w) (intKey hk)
  rw [hD k hk] at hat
  injection hat with hat
  injection hat with _ hat
  rw [hrun, hat]
section
variable {G : MG} {w w' : World} {F : Nat → Prop} {ids : List (Option Nat)} {S S' : Mk} {ks : List Nat}
set_option maxHeartbeats 1600000 in
set_option maxRecDepth 100000 in
theorem begin_c {A : Option Addr} {c : Nat} (h : MS G w F ids S) (hr : beginF G.l G.spots G.funs ks S = some S') (hk : Kd.F (Kd.int .i64) w G.okl A ks.length (ints ks)) :
    Calls Try.prog 22 #[ptr G.a, .slice A ks.length c] w fun e w' => e = .returned (.tuple #[]) ∧ MN G w F ids w' S' := by
  have hmax : ks.length ≤ 9223372036854775807 := Kd.F_max hk
  have HK := hid hk
  have HO := hid h.offl
  have HR := hid hr
  have HS := hid h.same
  clear h hr hk
  unfold ptr
  go_enter Try.func22, Try.ntmps22
  go_wp2_with fail
  go_loopw [9] (fun x wx => ∃ (j : Nat) (T : Mk), j ≤ ks.length ∧ x = .int .i64 j ∧ Box (MN G w F ids wx T) ∧ Box (beginF G.l G.spots G.funs (ks.drop j) T = some S')) (fun x _ => ks.length - (RowKit.intOf x).toNat)
  case atStart => exact ⟨0, S, Nat.zero_le _, rfl, HS, HR⟩
  case round =>
    clear HR HS
    obtain ⟨j, T, hj, rfl, HT, HR⟩ := hrel
    rcases Nat.lt_or_ge j ks.length with hlt | hge
    · have hlt' : (j : Int) < (ks.length : Int) := by omega
      obtain ⟨F1, h1, k1, s1⟩ := id HT.out
      have hk1 := Kd.F_step HK.out (W1 := wr) (fun j hj _ => k1.offM HO.out j hj)
      obtain ⟨ad, rfl, hc⟩ := Kd.at_int (Kd.F_now hk1) (j : Int) (by omega) (by omega)
      have hx : rd (ints ks) (j : Int) = (ks[j] : Int) := by unfold rd ints; simp [hlt]
      rw [hx, Int.toNat_natCast] at hc
      have hr := HR.out
      rw [List.drop_eq_getElem_cons hlt] at hr
      unfold beginF at hr
      obtain ⟨n, hn, hr⟩ := Option.bind_eq_some_iff.1 hr
      generalize ks[j] = k at hc hn hr
      obtain ⟨A3, c3, A4, c4, hkl, n0, n1, n2, n3, n4, n5, l3, f3, l4, f4⟩ := h1.nodes.node hn
      have hkl' : (k : Int) < (G.l.length : Int) := by omega
      have g0 := h1.c0
      have hb := (Below.refl wr.heap.size wr).alloc (Nat.le_refl _) (.cells #[.int .i64 n.kind, .int .i64 n.num, .string n.text, .slice A3 n.names.length c3, .slice A4 n.kids.length c4, .int .i64 n.at_] 37)
      have r6 := heap_alloc_new wr (.cells #[.int .i64 n.kind, .int .i64 n.num, .string n.text, .slice A3 n.names.length c3, .slice A4 n.kids.length c4, .int .i64 n.at_] 37)
      have HB := hid hb
      have R6 := hid r6
      have H1 := hid (h1.below hb)
      have K1 := hid (k1.below hb)
      have S1 := hid s1
      have F4 := hid (Kd.F_below f4 hb)
      have HLN := hid h1.lens
      have HNB := hid (show ¬ MK G F1 wr.heap.size from fun q => q.elim (fun q => by have := h1.lt.1; omega) (fun q => by have := (h1.off _ q).2.2.2.2.2; omega))
      clear hx HR HT h1 k1 s1 hk1 f3 f4 r6 hb
      split at hr
      · rename_i h23
        have t23 : (n.kind == (23 : Int)) = true := by simp [h23]
        obtain ⟨q, hq, hr⟩ := Option.bind_eq_some_iff.1 hr
        obtain ⟨nq, hnq, hr⟩ := Option.bind_eq_some_iff.1 hr
        obtain ⟨T1, ht1, hr⟩ := Option.bind_eq_some_iff.1 hr
        obtain ⟨sp, hsp, hr⟩ := Option.bind_eq_some_iff.1 hr
        obtain ⟨T2, ht2, hr⟩ := Option.bind_eq_some_iff.1 hr
        have hql := (List.getElem?_eq_some_iff.1 hq).1
        have hqn := (List.getElem?_eq_some_iff.1 hnq).1
        have HSP := hid hsp
        have HT1 := hid ht1
        have HT2 := hid ht2
        have HR2 := hid hr
        have HQ := hid (And.intro hq hqn)
        have hks : k < G.spots.length := (List.getElem?_eq_some_iff.1 hsp).1
        clear hr ht1 ht2 hq hnq hqn hn hsp h23
        go_upto_region 4 with fail
        clear n0 n1 n2 n3 n4 n5 g0 hc
        have hnb : wr.heap.size < (wr.alloc (.cells #[.int .i64 n.kind, .int .i64 n.num, .string n.text, .slice A3 n.names.length c3, .slice A4 n.kids.length c4, .int .i64 n.at_] 37)).heap.size := by simp
        generalize (wr.alloc (.cells #[.int .i64 n.kind, .int .i64 n.num, .string n.text, .slice A3 n.names.length c3, .slice A4 n.kids.length c4, .int .i64 n.at_] 37)) = W at *
        have m0 := (cell_of_row _ _ 0 _ _ _ R6.out).trans (b := some (Value.int .i64 n.kind)) rfl
        have m4 := (cell_of_row _ _ 4 _ _ _ R6.out).trans (b := some (Value.slice A4 n.kids.length c4)) rfl
        obtain ⟨ad4, rfl, q0⟩ := Kd.at_int (Kd.F_now F4.out) 0 (by omega) (by omega)
        have hx : rd (ints n.kids) 0 = (q : Int) := by unfold rd ints; simp [List.getElem?_map, HQ.out.1]
        rw [hx] at q0
        have q0' : W.cell? ad4 = some (.int .i64 q) := by simpa [Addr.add] using q0
        have g3 := H1.out.c3
        have hrun := (H1.out.below (below_drew (Below.refl _ _))).mp.run (k := q) (by have := HQ.out.2; have := HLN.out.2.2; omega)
        have hp0 : 0 < n.kids.length := by omega
        have hp0' : (0 : Int) < (n.kids.length : Int) := by omega
        have hnum := mnum_c (H1.out.below (below_drew (Below.refl _ _))) HT1.out
        unfold ptr at hnum
        have HN := hid hnum
        clear hx q0 hnum
        go_upto_region 5 with fail
        refine wp_region_still_tail 10 (by kernel_rfl) (by kernel_rfl) ?_
        simp only [List.take_succ_cons, List.take_zero, List.drop_succ_cons, List.drop_zero]
        repeat still_step
        refine wpStill_nil ?_
        change wpList _ _ _ _ _ W.drew
        clear hrun
        go_wp2_with fail
        refine HN.out.mono ?_
        rintro e w5 ⟨rfl, F5, h5, k5, s5⟩
        have KX := hid (((K1.out.below (below_drew (Below.refl _ _))).trans k5 (fun k q => q.elim (fun e => .inl (.inl e)) (fun h => (S1.out k h).imp .inr id))))
        have SX := hid (fun k h => (s5 k h).elim (S1.out k) (fun h => .inr (Nat.le_trans K1.out.size h)) : ∀ k, F5 k → F k ∨ w.heap.size ≤ k)
        have c1 := h5.c1
        have d1 := (cell_of_row _ _ (k * 2 + 1) _ _ _ h5.sp).trans (c := some (Value.int .i64 sp.slot)) (by simpa using (spCells_at HSP.out).2)
        have hnum := mnum_c h5 HT2.out
        unfold ptr at hnum
        have HN2 := hid hnum
        have H5 := hid h5
        clear h5 k5 s5 hnum m0 m4 q0' g3
        go_wp2_with fail
        refine HN2.out.mono ?_
        rintro e w6 ⟨rfl, hN6⟩
        have HT3 : Box (MN G w F ids w6 T2) := hid (MN.of KX.out SX.out hN6)
        clear hN6
        go_wp2_with fail
        go_roundw
        case rel => exact ⟨j + 1, _, by omega, by go_num, HT3, HR2⟩
        case measure => simp [RowKit.intOf]; omega
      · rename_i h23
        have t23 : (n.kind == (23 : Int)) = false := by simp [h23]
        have HR2 := hid hr
        clear hr h23
        go_wp2_with fail
        have HT2 : Box (MN G w F ids (wr.alloc (.cells #[.int .i64 n.kind, .int .i64 n.num, .string n.text, .slice A3 n.names.length c3, .slice A4 n.kids.length c4, .int .i64 n.at_] 37)) T) := hid ⟨F1, H1.out, K1.out, S1.out⟩
        go_roundw
        case rel => exact ⟨j + 1, _, by omega, by go_num, HT2, HR2⟩
        case measure => simp [RowKit.intOf]; omega
    · obtain rfl : j = ks.length := by omega
      have hr := HR.out
      rw [List.drop_length] at hr
      obtain rfl : T = S' := Option.some.inj hr
      clear hr
      go_wp2_with fail
      exact bodyPost_end (results_none rfl _ _ _) rfl ⟨rfl, HT.out⟩
end
end Go.Proofs.Ytibepkblgliooaa.Q
