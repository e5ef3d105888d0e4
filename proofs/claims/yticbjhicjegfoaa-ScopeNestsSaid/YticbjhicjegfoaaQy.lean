/- The parser, whole. -/
import Derived.Test.YticbjhicjegfoaaQj
import Derived.Test.YticbjhicjegfoaaQk
import Derived.Test.YticbjhicjegfoaaQl
import Derived.Test.YticbjhicjegfoaaQm
import Derived.Test.YticbjhicjegfoaaQo
import Derived.Test.YticbjhicjegfoaaQp
import Derived.Test.YticbjhicjegfoaaQr
import Derived.Test.YticbjhicjegfoaaQv
import Derived.Test.YticbjhicjegfoaaQx
namespace Go.Proofs.Yticbjhicjegfoaa.Q
open Go.RowKit
open Go.Proofs.YticbjhicjegfoaaW.PrintWords

theorem good (n : Nat) : Good n := by
  induction n using Nat.strongRecOn with
  | _ n ih =>
    exact {
      list := by intros; exact list_w ih (by assumption) (by assumption)
      commas := by intros; exact commas_w ih (by assumption) (by assumption)
      block := by intros; exact block_w ih (by assumption) (by assumption)
      stmt := by intros; exact stmt_w ih (by assumption) (by assumption)
      inner := by intros; exact inner_w ih (by assumption) (by assumption)
      one := by intros; exact one_w ih (by assumption) (by assumption)
      fn := by intros; exact fn_w ih (by assumption) (by assumption)
      e := by intros; exact e_w ih (by assumption) (by assumption)
      assign := by intros; exact assign_w ih (by assumption) (by assumption)
      cond := by intros; exact cond_w ih (by assumption) (by assumption)
      binary := by intros; exact binary_w (by assumption) ih (by assumption) (by assumption)
      unary := by intros; exact unary_w ih (by assumption) (by assumption)
      post := by intros; exact post_w ih (by assumption) (by assumption)
      first := by intros; exact first_w ih (by assumption) (by assumption)
      obj := by intros; exact obj_w ih (by assumption) (by assumption) }
/-- What Parse leaves: nodes in blocks of its own. -/
def Parsed (w : World) (T : Tree) (e : Ending) (w' : World) : Prop :=
  ∃ ok v, e = .returned (.agg #[v, .int .i64 T.at_, .bool T.ok]) ∧ Kd.N kNd 38 w' 0 ok v T.l ∧ (∀ k, ok k → w.heap.size ≤ k ∧ k < w'.heap.size) ∧ Below w.heap.size w w'
set_option maxHeartbeats 3200000 in
set_option maxRecDepth 100000 in
theorem parse_c {n : Nat} {src : ByteArray} {T : Tree} (hr : parseN n src = some T) (w : World) : Calls Try.prog 16 #[.string src] w (Parsed w T) := by
  unfold parseN at hr
  have hb0 : Below w.heap.size w (w.alloc (.cells #[.slice none 0 0, .int .i64 0, .bool false] 31)) := (Below.refl _ _).alloc (Nat.le_refl _) _
  have rb := heap_alloc_new w (.cells #[.slice none 0 0, .int .i64 0, .bool false] 31)
  split at hr
  · rename_i hs
    injection hr with hr
    subst hr
    have hs' : (4096 : Int) < (src.size : Int) := by omega
    have HB := hid hb0
    clear hb0 rb
    go_enter Try.func16, Try.ntmps16
    go_wp2_with fail
    exact bodyPost_ret (v := .agg #[.slice none 0 0, .int .i64 0, .bool false]) (by simp [results, Try.results16, go_sem]) rfl ⟨fun _ => False, _, rfl, Kd.R_N (Kd.R_nil _ _ _ _ _), fun _ h => h.elim, HB.out⟩
  · rename_i hs
    obtain ⟨⟨x1, x2, x3⟩, hx, hr2⟩ := Option.bind_eq_some_iff.1 hr
    clear hr
    dsimp only at hr2
    have hs' : ¬ (4096 : Int) < (src.size : Int) := by omega
    have hs1 : src.size ≤ 4096 := by omega
    have hfit := tok_fits src 0 (Nat.zero_le _)
    have htk := tok_c (w := w.alloc (.cells #[.slice none 0 0, .int .i64 0, .bool false] 31)) src 0 hs1 (Nat.zero_le _)
    have HTK := hid htk
    have HB := hid hb0
    have HX := hid hx
    have HR := hid hr2
    have HFIT := hid (And.intro hs1 hfit.2.2.1)
    have HRB := hid rb
    clear htk hb0 hx hr2 hfit hs1 rb hs
    go_enter Try.func16, Try.ntmps16
    go_wp2_with fail
    refine HTK.out.mono ?_
    rintro e w1 ⟨rfl, hb1⟩
    obtain ⟨ok0, hok0⟩ : ∃ ok0 : Nat → Prop, ok0 = fun _ => False := ⟨_, rfl⟩
    have hb2 : Below w.heap.size w w1 := HB.out.trans (hb1.mono HB.out.size)
    have rb1 : w1.heap[w.heap.size]? = some (.cells #[.slice none 0 0, .int .i64 0, .bool false] 31 (0, 0)) := (hb1.block _ (by simp)).trans HRB.out
    have hr1 : w.heap.size < w1.heap.size := (Array.getElem?_eq_some_iff.1 rb1).1
    have hps : (Obj.cells #[.string src, .int .i64 (tok src 0).1.kind, .string (tok src 0).1.text, .int .i64 (tok src 0).1.num, .int .i64 (tok src 0).1.at_, .bool (tok src 0).1.line, .int .i64 (tok src 0).2, .slice none 0 0, .int .i64 0, .bool false] 64) = .cells (psRow (start src) (.slice none 0 0)) 64 := rfl
    have HPI : Box (PI (w1.alloc (.cells (psRow (start src) (.slice none 0 0)) 64)) w1.heap.size ok0 (.slice none 0 0) (start src)) := hid ⟨heap_alloc_new _ _, Kd.R_N (Kd.R_nil _ _ _ _ _), by rw [hok0]; exact fun h => h, HFIT.out, by rw [hok0]; exact fun _ h => h.elim⟩
    have HB2 := hid (hb2.trans (((Below.refl w1.heap.size w1).alloc (Nat.le_refl _) (.cells (psRow (start src) (.slice none 0 0)) 64)).mono hb2.size))
    have HRB2 := hid ((heap_alloc_old w1 (.cells (psRow (start src) (.slice none 0 0)) 64) hr1).trans rb1)
    have HR1 := hid hr1
    have HOK := hid hok0
    have HPS := hid hps
    clear hb1 hb2 rb1 hr1 HRB HTK hok0 hps HB
    go_wp2_with fail
    rw [HPS.out]
    generalize (w1.alloc (.cells (psRow (start src) (.slice none 0 0)) 64)) = W at HPI HB2 HRB2 ⊢
    have H0 := hid (At.start HPI.out)
    refine ((good n).list HX.out H0.out.p).mono ?_
    rintro e w2 ⟨val, ok2, v2, rfl, h2, l2⟩
    obtain ⟨A2, c2, rfl⟩ := l2.slice
    have hne : w.heap.size ≠ w1.heap.size := by have := HR1.out; omega
    have rb2 : w2.heap[w.heap.size]? = some (.cells #[.slice none 0 0, .int .i64 0, .bool false] 31 (0, 0)) := h2.kp.heap HRB2.out (by rw [HOK.out]; exact fun q => q.elim hne (fun h => h))
    have hwW : w1.heap.size < W.heap.size := HPI.out.lt
    have hbel : Below w.heap.size w w2 := HB2.out.trans (h2.kp.to_below HB2.out.size (by rw [HOK.out]; exact fun k q => q.elim (fun e => by have := HR1.out; omega) (fun h => h.elim)))
    have c9 := h2.p.c9
    have hr := HR.out
    clear HR
    have H2 := hid h2
    have L2 := hid l2
    have HBEL := hid hbel
    have HNE := hid hne
    clear h2 l2 hbel HX
    split at hr
    · rename_i hb
      injection hr with hr
      subst hr
      rw [hb] at c9
      have c4 := H2.out.p.c4
      have t0 := (cell_of_row _ _ 0 _ _ _ rb2).trans (b := some (Value.slice none 0 0)) rfl
      have t1 := (cell_of_row _ _ 1 _ _ _ rb2).trans (b := some (Value.int .i64 0)) rfl
      have t2 := (cell_of_row _ _ 2 _ _ _ rb2).trans (b := some (Value.bool false)) rfl
      have f0 : w2.frozen? ⟨w.heap.size, 0, none⟩ = false := by simp [World.frozen?, rb2]
      have f1 : w2.frozen? ⟨w.heap.size, 1, none⟩ = false := by simp [World.frozen?, rb2]
      have f2 : w2.frozen? ⟨w.heap.size, 2, none⟩ = false := by simp [World.frozen?, rb2]
      clear hb rb2
      go_wp2_with fail
      refine bodyPost_ret (v := .agg #[.slice none 0 0, .int .i64 x3.t.at_, .bool false]) (by simp [results, Try.results16, go_sem, t0, t1, t2]) rfl ⟨fun _ => False, _, rfl, Kd.R_N (Kd.R_nil _ _ _ _ _), fun _ h => h.elim, ?_⟩
      exact ((HBEL.out.setCell (Nat.le_refl _) _).setCell (Nat.le_refl _) _).setCell (Nat.le_refl _) _
    · rename_i hb
      rw [show x3.bad = false by simpa using hb] at c9
      obtain ⟨⟨y1, y3⟩, hy, hr2⟩ := Option.map_eq_some_iff.1 hr
      have HY := hid hy
      obtain rfl : (⟨y3.l, 0, true⟩ : Tree) = T := hr2
      clear hr hy hb
      go_wp2_with fail
      refine (put_row H2.out L2.out HY.out).mono ?_
      rintro e w3 ⟨rfl, hN⟩
      obtain ⟨ok3, v3, h3, k3, s3⟩ := hN
      have rb3 : w3.heap[w.heap.size]? = some (.cells #[.slice none 0 0, .int .i64 0, .bool false] 31 (0, 0)) := k3.heap HRB2.out (by rw [HOK.out]; exact fun q => q.elim HNE.out (fun h => h))
      have hbel3 : Below w.heap.size w w3 := HB2.out.trans (k3.to_below HB2.out.size (by rw [HOK.out]; exact fun k q => q.elim (fun e => by have := HR1.out; omega) (fun h => h.elim)))
      have hnr : ∀ k, ok3 k → k ≠ w.heap.size := fun k hk e => by
        have := s3 k hk
        rw [HOK.out] at this
        rcases this with h | h
        · exact h
        · have := HR1.out; omega
      have hnew : ∀ k, ok3 k → w.heap.size ≤ k ∧ k < w3.heap.size := fun k hk => ⟨by
        have := s3 k hk
        rw [HOK.out] at this
        rcases this with h | h
        · exact h.elim
        · have := HR1.out; omega, h3.lo k hk⟩
      have c7 := h3.c7
      have t0 := (cell_of_row _ _ 0 _ _ _ rb3).trans (b := some (Value.slice none 0 0)) rfl
      have t1 := (cell_of_row _ _ 1 _ _ _ rb3).trans (b := some (Value.int .i64 0)) rfl
      have t2 := (cell_of_row _ _ 2 _ _ _ rb3).trans (b := some (Value.bool false)) rfl
      have f0 : w3.frozen? ⟨w.heap.size, 0, none⟩ = false := by simp [World.frozen?, rb3]
      have f1 : w3.frozen? ⟨w.heap.size, 1, none⟩ = false := by simp [World.frozen?, rb3]
      have f2 : w3.frozen? ⟨w.heap.size, 2, none⟩ = false := by simp [World.frozen?, rb3]
      obtain ⟨A3, c3, e3⟩ := Kd.N_slice h3.row
      subst e3
      have H3 := hid h3
      have HBEL3 := hid hbel3
      have HNR := hid hnr
      have HNEW := hid hnew
      clear h3 k3 s3 rb3 rb2 hbel3 hnr hnew c9 H2 L2
      go_wp2_with fail
      refine bodyPost_ret (v := .agg #[.slice A3 y3.l.length c3, .int .i64 0, .bool true]) (by simp [results, Try.results16, go_sem, t0, t1, t2]) rfl ⟨ok3, _, rfl, ?_, fun k hk => ⟨(HNEW.out k hk).1, by simpa using (HNEW.out k hk).2⟩, ?_⟩
      · have far := fun (W' : World) (i : Nat) (u : Value) (h : Kd.N kNd 38 W' 0 ok3 (.slice A3 y3.l.length c3) y3.l) => Kd.N_far (p := ⟨w.heap.size, i, none⟩) h (fun k hk => HNR.out k hk) u
        exact far _ _ _ (far _ _ _ (far _ _ _ H3.out.row))
      · exact ((HBEL3.out.setCell (Nat.le_refl _) _).setCell (Nat.le_refl _) _).setCell (Nat.le_refl _) _
end Go.Proofs.Yticbjhicjegfoaa.Q
