/- The document's Add, where a cell is added. -/
import Derived.Test.YtljbdmmidajmdaaPgU
namespace Go.Proofs.Ytljbdmmidajmdaa.Pg
open Go.RowKit
attribute [local go_sem ↓] Go.wp_at_zero Go.wp_at_succ

section
variable {P : Program} (w : World)
/-- append of a whole row, be it empty, to an empty row of one's own, at a step of a region that draws its order. -/
theorem step_copy {ops : Array Oper} {o : Oper} {a : Act} {K : Act → World → Prop} {Q : Exit → Act → World → Prop} {E : Prop} (hgd : o.guard = none) (s x : Operand) (t : TypeId)
    (ho : o.op = .call { callee := .builtin .append, args := #[s, x], argTypes := #[t, t] })
    (base : Nat) (e : TypeId) (i : TypeInfo) (z : Value) (size bytes : Nat) (ht : P.underlying t = some (.slice e)) (hi : P.info? e = some i) (hz : i.zero = some z)
    (hsize : i.size = size) (hby : i.bytes = bytes) (hzs : z.cells.size = size) (hsz : 0 < size)
    (k : Nat) (hs : a.eval s = .slice (some ⟨k, 0, none⟩) 0 0) (hown : w.ownsRow base e size (.slice (some ⟨k, 0, none⟩) 0 0) 0 [])
    (A : Option Addr) (m c : Nat) (news : List Value) (hx : a.eval x = .slice A m c) (hl : news.length = m * size) (hnews : ∀ ad, A = some ad → ∀ j u, news[j]? = some u → w.cell? (ad.add j) = some u) (hA : A = none → m = 0) (h1 : ∀ u ∈ news, u.oneCell' = true)
    (h63 : m ≤ maxLen) (hbytes : m * bytes ≤ 140737488355328) (hbase : base ≤ w.heap.size)
    (h : ∀ g cap w', w'.ownsRow base e size (.slice (some ⟨g, 0, none⟩) m cap) m news → w.grownBy w' (some k) → (k = g ∨ g = w.heap.size) → g < w'.heap.size → K (a.put o.dst (.slice (some ⟨g, 0, none⟩) m cap)) w') :
    if Region.wanted o (yielded ops a.tmps) = true then Oper.wp P o a w K Q else E := by
  rcases Nat.eq_zero_or_pos m with rfl | hm
  · have hw : Region.wanted o (yielded ops a.tmps) = true := by simp [Region.wanted, hgd]
    rw [if_pos hw]
    obtain rfl : news = [] := by
      rw [Nat.zero_mul] at hl
      exact List.length_eq_zero_iff.1 hl
    have hr : (Builtin.append_ #[t, t] o.type #[.slice (some ⟨k, 0, none⟩) 0 0, .slice A 0 c]).run P w = .ok (.slice (some ⟨k, 0, none⟩) 0 0) w := by
      cases A <;> simp [Builtin.append_, run_underlying ht, sizeOf, typeInfo, hi, Builtin.lenOf, Builtin.firstCells, storeCells, loadCells, loadCellsFrom]
    unfold Oper.wp execOp
    simp only [ho, resolve, invoke, builtin, Sem.run_bind, Sem.run_pure, Result.andThen_ok, List.map_toArray, List.map_cons, List.map_nil, hs, hx, hr]
    exact h k 0 w hown ⟨rfl, rfl, rfl, Nat.le_refl _, fun _ _ _ => rfl⟩ (.inl rfl) (hown.lt k rfl).2
  · cases A with
    | none => exact absurd (hA rfl) (by omega)
    | some ad =>
      refine step_append_lies w hgd s x t ho base e i z size bytes ht hi hz hsize hby hzs hsz (.slice (some ⟨k, 0, none⟩) 0 0) 0 [] hs hown ad m c news hx hl (hnews ad rfl) h1 hm (by omega) (by rwa [Nat.zero_add]) hbase w.heap.size rfl ?_
      intro g cap w' h2 h3 h4 h5
      rw [Nat.zero_add, List.nil_append] at h2
      rw [Nat.zero_add]
      exact h g cap w' h2 h3 (h4.imp (fun q => by simpa [Value.ownBlock] using q) id) h5
end

theorem box_news {w : World} {k : Nat} {c : CD} {A A' : Option Addr} {n p n' p' : Nat} {fr : Nat × Nat} (h : w.heap[k]? = some (.cells #[.int .i64 c.kind, .int .i64 c.a, .int .i64 c.b, .slice A n p, .slice A' n' p'] 31 fr)) :
    ∀ j u, [Value.int .i64 c.kind, .int .i64 c.a, .int .i64 c.b, .slice A n p, .slice A' n' p'][j]? = some u → w.cell? ((⟨k, 0, none⟩ : Addr).add j) = some u := World.news_of_block h

section
variable {B : Nat} {w : World} {D : FD} {fb g cap next b : Nat} {R : List RB} {x : RB}
set_option maxHeartbeats 6400000 in
set_option maxRecDepth 100000 in
theorem radd_yes (h : RF B w D fb g cap R next) (hF : Fam B w D) (hB : B ≤ w.heap.size) (hnx : next ≤ 1000000) (hpl : x.pgs.length ≤ 1000000) (hcl : x.cells.length < 4096) (hb : R[b]? = some x) (hg : x.gone = false) (hpg : x.cells.length / 8 ≤ x.pgs.length)
    {c : CD} {A A' : Option Addr} {n p n' p' : Nat} (hr : Reads B w c (.slice A n p) (.slice A' n' p')) :
    Calls Try.prog 22 #[.pointer (some ⟨fb, 0, none⟩), .int .i64 b, .agg #[.int .i64 c.kind, .int .i64 c.a, .int .i64 c.b, .slice A n p, .slice A' n' p']] w fun e w' => e = .returned (.int .i64 0) ∧
      ∃ ps next', OwnRB R b x (x.cells.length / 8) next ps next' ∧ RF B w' D fb g cap (R.set b { x with pgs := ps, cells := x.cells ++ [c] }) next' ∧ RGo B w w' fb g := by
  have hW := (Below.refl w.heap.size w).alloc (Nat.le_refl _) (.cells #[.int .i64 c.kind, .int .i64 c.a, .int .i64 c.b, .slice A n p, .slice A' n' p'] 31)
  obtain ⟨A1, p1, A2, p2, d0, -, d2, e1, e2, -⟩ := (h.below hW).at_ hb
  rw [hg] at d2
  clear hg
  have c0 := (h.below hW).c0
  have hbl := (List.getElem?_eq_some_iff.1 hb).1
  have hm := h.small
  unfold maxLen at hm e2
  have hbl' : (b : Int) < (R.length : Nat) := by omega
  have hlt' : ((x.cells.length : Nat) : Int) < 4096 := by omega
  have yd : ((x.cells.length : Nat) : Int).tdiv 8 = ((x.cells.length / 8 : Nat) : Int) := by rw [Int.tdiv_eq_ediv_of_nonneg (by omega)]; omega
  have hgf : g ≠ fb := typ_ne h.gtyp.1 (Typ.of h.cell) (by decide)
  have HW := hid hW
  have H := hid h
  have HBk := hid hb
  have HR := hid hr
  have HF := hid hF
  have HC := hid (heap_alloc_new w (.cells #[.int .i64 c.kind, .int .i64 c.a, .int .i64 c.b, .slice A n p, .slice A' n' p'] 31))
  clear h hb hW hr hF
  go_enter Try.func22, Try.ntmps22
  go_wp2_with fail
  refine (own_c (H.out.below HW.out) (HF.out.below HW.out) (Nat.le_trans hB HW.out.size) hnx hpl HBk.out hpg).mono ?_
  rintro e w2 ⟨rfl, ps, next', ho, h2, hG2⟩
  have hb2 : (R.set b { x with pgs := ps })[b]? = some { x with pgs := ps } := by rw [List.getElem?_set]; simp [hbl]
  have F2 := hid (hG2.fam (H.out.below HW.out) (HF.out.below HW.out))
  have s2 : B ≤ w2.heap.size := Nat.le_trans (Nat.le_trans hB HW.out.size) hG2.fr.size
  obtain ⟨A3, p3, A4, p4, f0, -, -, g1, g2', g3, g4, -⟩ := h2.at_ hb2
  have hcl2 : ({ x with pgs := ps } : RB).cells = x.cells := rfl
  rw [hcl2] at f0 g1 g4
  have lfb := (Array.getElem?_eq_some_iff.1 H.out.cell).1
  have lg := H.out.gtyp.1.lt
  have hbox := (hG2.keep w.heap.size (Array.getElem?_eq_some_iff.1 HC.out).1 (by omega) (by omega)).trans HC.out
  have hr2 := HR.out.move ((Fr.of_below HW.out).trans hG2.fr)
  have e0 := h2.c0
  have h10 : List.length (List.set R b { x with pgs := ps }) = R.length := List.length_set
  rw [h10] at e0
  have lfb2 : fb < w2.heap.size := (Array.getElem?_eq_some_iff.1 h2.cell).1
  have lg2 : g < w2.heap.size := h2.gtyp.1.lt
  have lbx2 : w.heap.size < w2.heap.size := (Array.getElem?_eq_some_iff.1 hbox).1
  have nbg : g ≠ w.heap.size := by omega
  have b0 := cell_of_row _ _ 0 _ _ _ hbox
  have b1 := cell_of_row _ _ 1 _ _ _ hbox
  have b2 := cell_of_row _ _ 2 _ _ _ hbox
  have b3 := cell_of_row _ _ 3 _ _ _ hbox
  have b4 := cell_of_row _ _ 4 _ _ _ hbox
  simp only [List.getElem?_toArray, List.getElem?_cons_zero, List.getElem?_cons_succ] at b0 b1 b2 b3 b4
  obtain ⟨i0, hi, hz0, hz1, hz2⟩ := info_parts infoCells
  have HI := hid hi
  have HIn : ∃ inner, CellsR B w2 x.cells inner ∧ ∀ ad, A3 = some ad → ∀ j u, inner[j]? = some u → w2.cell? (ad.add j) = some u := by
    cases hxc : x.cells with
    | nil => exact ⟨[], rfl, fun ad _ j u hu => by simp at hu⟩
    | cons c1 l1 =>
      obtain ⟨bb, oo, rfl, _⟩ := g4.at_ 0 c1 (by rw [hxc]; rfl)
      have hall : ∀ j c, x.cells[j]? = some c → CellAt B w2 bb (oo + j * 5) c := fun j c hj => by
        obtain ⟨b1, o1, e, hc⟩ := g4.at_ j c hj
        injection e with e
        injection e with e4 e5
        subst e4 e5
        exact hc
      obtain ⟨inner, hin, hcell⟩ := cells_flat hall
      refine ⟨inner, hxc ▸ hin, fun ad hA j u hu => ?_⟩
      obtain rfl := Option.some.inj hA
      rw [show (⟨bb, oo, none⟩ : Addr).add j = ⟨bb, oo + j, none⟩ by unfold Addr.add; split <;> simp_all]
      exact hcell j u hu
  obtain ⟨inner, hin, hcell⟩ := HIn
  have hA3 : A3 = none → x.cells.length = 0 := fun e => by have := g3 e; omega
  have HA := hid hA3
  have HCell := hid hcell
  have HLen := hid hin.length
  have HOne := hid (own_oneCell hin)
  have HIn := hid hin
  have H2 := hid h2
  have HG2 := hid hG2
  have HBox := hid hbox
  have HO := hid ho
  have HR2 := hid hr2
  have HB2 := hid hb2
  have hcl3 : x.cells.length ≤ 4096 := by omega
  -- the worlds of the region
  have W1 := hid (((Below.refl w2.heap.size w2).alloc (Nat.le_refl _) (.cells #[] 31)).drew)
  have W2 := hid ((((Below.refl w2.heap.size w2).alloc (Nat.le_refl _) (.cells #[] 31)).alloc (by simp) (.cells #[.int .i64 c.kind, .int .i64 c.a, .int .i64 c.b, .slice A n p, .slice A' n' p'] 31)).drew)
  have W3 := hid ((((Below.refl w2.heap.size w2).alloc (Nat.le_refl _) (.cells #[.int .i64 c.kind, .int .i64 c.a, .int .i64 c.b, .slice A n p, .slice A' n' p'] 31)).alloc (by simp) (.cells #[] 31)).drew)
  have W4 := (Below.refl w2.heap.size w2).alloc (Nat.le_refl _) (.cells #[.int .i64 c.kind, .int .i64 c.a, .int .i64 c.b, .slice A n p, .slice A' n' p'] 31)
  have y1 := keepc ((Below.refl w2.heap.size w2).alloc (Nat.le_refl _) (.cells #[] 31)) f0
  have y2 := keepc W4 f0
  have y3 := keepc W2.out f0
  have y4 := keepc W3.out f0
  clear h2 hG2 hbox ho hr2 hb2 hin hcell c0 d0 d2 hi g4 h10 hA3 g3 W4 hcl2
  have X2 := hid (show ((w2.alloc (.cells #[] 31)).alloc (.cells #[.int .i64 c.kind, .int .i64 c.a, .int .i64 c.b, .slice A n p, .slice A' n' p'] 31)).drew.heap[w2.heap.size + 1]? = some (.cells #[.int .i64 c.kind, .int .i64 c.a, .int .i64 c.b, .slice A n p, .slice A' n' p'] 31 (0, 0)) by have h := heap_alloc_new (w2.alloc (.cells #[] 31)) (.cells #[.int .i64 c.kind, .int .i64 c.a, .int .i64 c.b, .slice A n p, .slice A' n' p'] 31); rw [show (w2.alloc (.cells #[] 31)).heap.size = w2.heap.size + 1 by simp] at h; exact h)
  have X3 := hid (show ((w2.alloc (.cells #[.int .i64 c.kind, .int .i64 c.a, .int .i64 c.b, .slice A n p, .slice A' n' p'] 31)).alloc (.cells #[] 31)).drew.heap[w2.heap.size]? = some (.cells #[.int .i64 c.kind, .int .i64 c.a, .int .i64 c.b, .slice A n p, .slice A' n' p'] 31 (0, 0)) by have := (heap_alloc_old (w2.alloc (.cells #[.int .i64 c.kind, .int .i64 c.a, .int .i64 c.b, .slice A n p, .slice A' n' p'] 31)) (.cells #[] 31) (r := w2.heap.size) (by simp)).trans (heap_alloc_new w2 (.cells #[.int .i64 c.kind, .int .i64 c.a, .int .i64 c.b, .slice A n p, .slice A' n' p'] 31)); exact this)
  have M1 := hid (show (w2.alloc (.cells #[] 31)).drew.ownsRow w2.heap.size 31 5 (.slice (some ⟨w2.heap.size, 0, none⟩) 0 0) 0 [] from World.ownsRow_made w2 #[] 0 (Nat.le_refl _) (Nat.zero_le _) rfl)
  have M2 := hid (show ((w2.alloc (.cells #[] 31)).alloc (.cells #[.int .i64 c.kind, .int .i64 c.a, .int .i64 c.b, .slice A n p, .slice A' n' p'] 31)).drew.ownsRow w2.heap.size 31 5 (.slice (some ⟨w2.heap.size, 0, none⟩) 0 0) 0 [] from (World.ownsRow_made w2 #[] 0 (Nat.le_refl _) (Nat.zero_le _) rfl).alloc _)
  have M3 := hid (show ((w2.alloc (.cells #[.int .i64 c.kind, .int .i64 c.a, .int .i64 c.b, .slice A n p, .slice A' n' p'] 31)).alloc (.cells #[] 31)).drew.ownsRow w2.heap.size 31 5 (.slice (some ⟨w2.heap.size + 1, 0, none⟩) 0 0) 0 [] by have := World.ownsRow_made (base := w2.heap.size) (e := 31) (size := 5) (w2.alloc (.cells #[.int .i64 c.kind, .int .i64 c.a, .int .i64 c.b, .slice A n p, .slice A' n' p'] 31)) #[] 0 (by simp) (Nat.zero_le _) rfl; rw [show (w2.alloc (.cells #[.int .i64 c.kind, .int .i64 c.a, .int .i64 c.b, .slice A n p, .slice A' n' p'] 31)).heap.size = w2.heap.size + 1 by simp] at this; exact this)
  go_wp2_with fail
  refine wp_region_until 20 (S := (fun w' => w'.cell? ⟨fb, 0, none⟩ = some (.slice (some ⟨g, 0, none⟩) R.length cap) ∧ w'.cell? ⟨g, b * 3, none⟩ = some (.slice A3 x.cells.length p3) ∧ w'.cell? ⟨w.heap.size, 0, none⟩ = some (.int .i64 c.kind) ∧ w'.cell? ⟨w.heap.size, 1, none⟩ = some (.int .i64 c.a) ∧ w'.cell? ⟨w.heap.size, 2, none⟩ = some (.int .i64 c.b) ∧ w'.cell? ⟨w.heap.size, 3, none⟩ = some (.slice A n p) ∧ w'.cell? ⟨w.heap.size, 4, none⟩ = some (.slice A' n' p'))) (by kernel_rfl) ?_ ?_
  · go_keep
  intro hS
  refine wpAnyU_take (i := 0) (v := (.pointer (some ⟨fb, 0, none⟩))) [18, 19, 20] rfl (by kernel_rfl) (fun _ _ _ h => h) (by kernel_rfl) rfl (by kernel_rfl) (by kernel_rfl) (by kernel_rfl) (Or.inl ⟨by rfl, ?_⟩) hS ?_
  · intro w' hS'
    obtain ⟨s0, s1, s2, s3, s4, s5, s6⟩ := hS'
    go_simp
  simp only [Act.put]
  refine wpAnyU_take (i := 1) (v := (.pointer (some ⟨fb, 0, none⟩))) [18, 19, 20] rfl (by kernel_rfl) (fun _ _ _ h => h) (by kernel_rfl) rfl (by kernel_rfl) (by kernel_rfl) (by kernel_rfl) (Or.inl ⟨by rfl, ?_⟩) hS ?_
  · intro w' hS'
    obtain ⟨s0, s1, s2, s3, s4, s5, s6⟩ := hS'
    go_simp
  simp only [Act.put]
  refine wpAnyU_take (i := 2) (v := (.pointer (some ⟨fb, 0, none⟩))) [18, 19, 20] rfl (by kernel_rfl) (fun _ _ _ h => h) (by kernel_rfl) rfl (by kernel_rfl) (by kernel_rfl) (by kernel_rfl) (Or.inl ⟨by rfl, ?_⟩) hS ?_
  · intro w' hS'
    obtain ⟨s0, s1, s2, s3, s4, s5, s6⟩ := hS'
    go_simp
  simp only [Act.put]
  refine wpAnyU_take (i := 3) (v := (.slice (some ⟨g, 0, none⟩) R.length cap)) [18, 19, 20] rfl (by kernel_rfl) (fun _ _ _ h => h) (by kernel_rfl) rfl (by kernel_rfl) (by kernel_rfl) (by kernel_rfl) (Or.inl ⟨by rfl, ?_⟩) hS ?_
  · intro w' hS'
    obtain ⟨s0, s1, s2, s3, s4, s5, s6⟩ := hS'
    go_simp
  simp only [Act.put]
  refine wpAnyU_take (i := 4) (v := (.int .i64 b)) [18, 19, 20] rfl (by kernel_rfl) (fun _ _ _ h => h) (by kernel_rfl) rfl (by kernel_rfl) (by kernel_rfl) (by kernel_rfl) (Or.inl ⟨by rfl, ?_⟩) hS ?_
  · intro w' hS'
    obtain ⟨s0, s1, s2, s3, s4, s5, s6⟩ := hS'
    go_simp
  simp only [Act.put]
  refine wpAnyU_take (i := 6) (v := (.pointer (some ⟨fb, 0, none⟩))) [18, 19, 20] rfl (by kernel_rfl) (fun _ _ _ h => h) (by kernel_rfl) rfl (by kernel_rfl) (by kernel_rfl) (by kernel_rfl) (Or.inl ⟨by rfl, ?_⟩) hS ?_
  · intro w' hS'
    obtain ⟨s0, s1, s2, s3, s4, s5, s6⟩ := hS'
    go_simp
  simp only [Act.put]
  refine wpAnyU_take (i := 7) (v := (.pointer (some ⟨fb, 0, none⟩))) [18, 19, 20] rfl (by kernel_rfl) (fun _ _ _ h => h) (by kernel_rfl) rfl (by kernel_rfl) (by kernel_rfl) (by kernel_rfl) (Or.inl ⟨by rfl, ?_⟩) hS ?_
  · intro w' hS'
    obtain ⟨s0, s1, s2, s3, s4, s5, s6⟩ := hS'
    go_simp
  simp only [Act.put]
  refine wpAnyU_take (i := 8) (v := (.pointer (some ⟨fb, 0, none⟩))) [18, 19, 20] rfl (by kernel_rfl) (fun _ _ _ h => h) (by kernel_rfl) rfl (by kernel_rfl) (by kernel_rfl) (by kernel_rfl) (Or.inl ⟨by rfl, ?_⟩) hS ?_
  · intro w' hS'
    obtain ⟨s0, s1, s2, s3, s4, s5, s6⟩ := hS'
    go_simp
  simp only [Act.put]
  refine wpAnyU_take (i := 9) (v := (.slice (some ⟨g, 0, none⟩) R.length cap)) [18, 19, 20] rfl (by kernel_rfl) (fun _ _ _ h => h) (by kernel_rfl) rfl (by kernel_rfl) (by kernel_rfl) (by kernel_rfl) (Or.inl ⟨by rfl, ?_⟩) hS ?_
  · intro w' hS'
    obtain ⟨s0, s1, s2, s3, s4, s5, s6⟩ := hS'
    go_simp
  simp only [Act.put]
  refine wpAnyU_take (i := 10) (v := (.int .i64 b)) [18, 19, 20] rfl (by kernel_rfl) (fun _ _ _ h => h) (by kernel_rfl) rfl (by kernel_rfl) (by kernel_rfl) (by kernel_rfl) (Or.inl ⟨by rfl, ?_⟩) hS ?_
  · intro w' hS'
    obtain ⟨s0, s1, s2, s3, s4, s5, s6⟩ := hS'
    go_simp
  simp only [Act.put]
  refine wpAnyU_take (i := 11) (v := (.pointer (some ⟨g, b * 3, none⟩))) [18, 19, 20] rfl (by kernel_rfl) (fun _ _ _ h => h) (by kernel_rfl) rfl (by kernel_rfl) (by kernel_rfl) (by kernel_rfl) (Or.inl ⟨by rfl, ?_⟩) hS ?_
  · intro w' hS'
    obtain ⟨s0, s1, s2, s3, s4, s5, s6⟩ := hS'
    go_simp
  simp only [Act.put]
  refine wpAnyU_take (i := 12) (v := (.pointer (some ⟨g, b * 3, none⟩))) [18, 19, 20] rfl (by kernel_rfl) (fun _ _ _ h => h) (by kernel_rfl) rfl (by kernel_rfl) (by kernel_rfl) (by kernel_rfl) (Or.inl ⟨by rfl, ?_⟩) hS ?_
  · intro w' hS'
    obtain ⟨s0, s1, s2, s3, s4, s5, s6⟩ := hS'
    go_simp
  simp only [Act.put]
  refine wpAnyU_take (i := 13) (v := (.slice A3 x.cells.length p3)) [18, 19, 20] rfl (by kernel_rfl) (fun _ _ _ h => h) (by kernel_rfl) rfl (by kernel_rfl) (by kernel_rfl) (by kernel_rfl) (Or.inl ⟨by rfl, ?_⟩) hS ?_
  · intro w' hS'
    obtain ⟨s0, s1, s2, s3, s4, s5, s6⟩ := hS'
    go_simp
  simp only [Act.put]
  refine wpAnyU_take (i := 15) (v := (.agg #[.int .i64 c.kind, .int .i64 c.a, .int .i64 c.b, .slice A n p, .slice A' n' p'])) [18, 19, 20] rfl (by kernel_rfl) (fun _ _ _ h => h) (by kernel_rfl) rfl (by kernel_rfl) (by kernel_rfl) (by kernel_rfl) (Or.inl ⟨by rfl, ?_⟩) hS ?_
  · intro w' hS'
    obtain ⟨s0, s1, s2, s3, s4, s5, s6⟩ := hS'
    go_simp
  simp only [Act.put]
  refine wpAnyU_all (rs := [5, 16]) (by kernel_rfl) (by simp) ?_
  intro j hj
  simp only [List.mem_cons, List.not_mem_nil, or_false] at hj
  rcases hj with rfl | rfl
  · have hdum : True := trivial
    clear hdum
    refine wpOp_shut rfl (fun K' HK => ?_)
    go_simp
    refine HK.out _ _ ⟨.inr ?_, ?_⟩
    · exact ⟨keepc W1.out e0, keepc W1.out f0, keepc W1.out b0, keepc W1.out b1, keepc W1.out b2, keepc W1.out b3, keepc W1.out b4⟩
    clear HK K'
    try simp only [Act.put]
    refine wpAnyU_all (rs := [14, 16]) (by kernel_rfl) (by simp) ?_
    intro j hj
    simp only [List.mem_cons, List.not_mem_nil, or_false] at hj
    rcases hj with rfl | rfl
    · have hdum : True := trivial
      clear hdum
      refine wpOp_shut rfl (fun K' HK => ?_)
      (refine step_copy _ (by rfl) _ _ _ (by rfl) w2.heap.size 31 i0 (.agg #[.int .i64 0, .int .i64 0, .int .i64 0, .slice none 0 0, .slice none 0 0]) 5 72 Try.underlying44 HI.out hz0 hz1 hz2 rfl (by decide) (w2.heap.size) (by rfl) M1.out A3 x.cells.length p3 inner (by rfl) HLen.out (fun ad e j u hu => keepc W1.out (HCell.out ad e j u hu)) HA.out HOne.out (by unfold maxLen; omega) (by omega) W1.out.size ?_; intro g4 cp4 w4 hown hgrow hat hlt4; have hg4 : w2.heap.size ≤ g4 := (hown.lt g4 rfl).1; have HB4 := hid (W1.out.grown hgrow W1.out.size (fun y hy => by simp at hy; omega)); have HOwn4 := hid hown; have HG4 := hid hg4; have hs4 : w2.heap.size ≤ w4.heap.size := HB4.out.size; clear hown hat hlt4)
      refine HK.out _ _ ⟨.inr ?_, ?_⟩
      · exact ⟨keepc HB4.out e0, keepc HB4.out f0, keepc HB4.out b0, keepc HB4.out b1, keepc HB4.out b2, keepc HB4.out b3, keepc HB4.out b4⟩
      clear HK K' hgrow
      try simp only [Act.put]
      refine wpAnyU_all (rs := [16]) (by kernel_rfl) (by simp) ?_
      intro j hj
      obtain rfl := List.mem_singleton.1 hj
      refine wpOp_shut rfl (fun K' HK => ?_)
      go_simp
      refine HK.out _ _ ⟨.inr ?_, ?_⟩
      · exact ⟨keepc ((HB4.out.trans (((Below.refl w4.heap.size w4).alloc (Nat.le_refl _) (.cells #[.int .i64 c.kind, .int .i64 c.a, .int .i64 c.b, .slice A n p, .slice A' n' p'] 31)).mono HB4.out.size))) e0, keepc ((HB4.out.trans (((Below.refl w4.heap.size w4).alloc (Nat.le_refl _) (.cells #[.int .i64 c.kind, .int .i64 c.a, .int .i64 c.b, .slice A n p, .slice A' n' p'] 31)).mono HB4.out.size))) f0, keepc ((HB4.out.trans (((Below.refl w4.heap.size w4).alloc (Nat.le_refl _) (.cells #[.int .i64 c.kind, .int .i64 c.a, .int .i64 c.b, .slice A n p, .slice A' n' p'] 31)).mono HB4.out.size))) b0, keepc ((HB4.out.trans (((Below.refl w4.heap.size w4).alloc (Nat.le_refl _) (.cells #[.int .i64 c.kind, .int .i64 c.a, .int .i64 c.b, .slice A n p, .slice A' n' p'] 31)).mono HB4.out.size))) b1, keepc ((HB4.out.trans (((Below.refl w4.heap.size w4).alloc (Nat.le_refl _) (.cells #[.int .i64 c.kind, .int .i64 c.a, .int .i64 c.b, .slice A n p, .slice A' n' p'] 31)).mono HB4.out.size))) b2, keepc ((HB4.out.trans (((Below.refl w4.heap.size w4).alloc (Nat.le_refl _) (.cells #[.int .i64 c.kind, .int .i64 c.a, .int .i64 c.b, .slice A n p, .slice A' n' p'] 31)).mono HB4.out.size))) b3, keepc ((HB4.out.trans (((Below.refl w4.heap.size w4).alloc (Nat.le_refl _) (.cells #[.int .i64 c.kind, .int .i64 c.a, .int .i64 c.b, .slice A n p, .slice A' n' p'] 31)).mono HB4.out.size))) b4⟩
      clear HK K'
      try simp only [Act.put]
      refine wpAnyU_all (rs := [17]) (by kernel_rfl) (by simp) ?_
      intro j hj
      obtain rfl := List.mem_singleton.1 hj
      refine wpOp_shut rfl (fun K' HK => ?_)
      (refine step_append_lies _ (by rfl) _ _ _ (by rfl) w2.heap.size 31 i0 (.agg #[.int .i64 0, .int .i64 0, .int .i64 0, .slice none 0 0, .slice none 0 0]) 5 72 Try.underlying44 HI.out hz0 hz1 hz2 rfl (by decide) (.slice (some ⟨g4, 0, none⟩) x.cells.length cp4) x.cells.length inner (by rfl) (HOwn4.out.alloc (.cells #[.int .i64 c.kind, .int .i64 c.a, .int .i64 c.b, .slice A n p, .slice A' n' p'] 31)) ⟨w4.heap.size, 0, none⟩ 1 1 [.int .i64 c.kind, .int .i64 c.a, .int .i64 c.b, .slice A n p, .slice A' n' p'] (by rfl) rfl (box_news (heap_alloc_new w4 _)) (by simp [Value.oneCell']) (by decide) (by unfold maxLen; omega) (by omega) ((HB4.out.trans (((Below.refl w4.heap.size w4).alloc (Nat.le_refl _) (.cells #[.int .i64 c.kind, .int .i64 c.a, .int .i64 c.b, .slice A n p, .slice A' n' p'] 31)).mono HB4.out.size))).size _ rfl ?_; intro g6 cp6 w6 hown hgrow hat hlt6; have HB6 := hid (((HB4.out.trans (((Below.refl w4.heap.size w4).alloc (Nat.le_refl _) (.cells #[.int .i64 c.kind, .int .i64 c.a, .int .i64 c.b, .slice A n p, .slice A' n' p'] 31)).mono HB4.out.size))).grown hgrow ((HB4.out.trans (((Below.refl w4.heap.size w4).alloc (Nat.le_refl _) (.cells #[.int .i64 c.kind, .int .i64 c.a, .int .i64 c.b, .slice A n p, .slice A' n' p'] 31)).mono HB4.out.size))).size (fun y hy => by simp [Value.ownBlock] at hy; have := HG4.out; omega)); have HOwn6 := hid hown; have k0 := (H2.out.below HB6.out).at_ HB2.out; have kf := ((H2.out.below HB6.out).frozen (b * 3)).1; obtain ⟨A7, p7, A8, p8, k1, -⟩ := k0; clear hown hat hlt6)
      refine HK.out _ _ ⟨.inr ?_, ?_⟩
      · exact ⟨keepc HB6.out e0, keepc HB6.out f0, keepc HB6.out b0, keepc HB6.out b1, keepc HB6.out b2, keepc HB6.out b3, keepc HB6.out b4⟩
      clear HK K' hgrow
      try simp only [Act.put]
      refine wpAnyU_all (rs := [18]) (by kernel_rfl) (by simp) ?_
      intro j hj
      obtain rfl := List.mem_singleton.1 hj
      refine wpOp_shut rfl (fun K' HK => ?_)
      go_simp
      refine HK.out _ _ ⟨.inr ?_, ?_⟩
      · exact ⟨keepc HB6.out e0, keepc HB6.out f0, keepc HB6.out b0, keepc HB6.out b1, keepc HB6.out b2, keepc HB6.out b3, keepc HB6.out b4⟩
      clear HK K'
      try simp only [Act.put]
      refine wpAnyU_all (rs := [19]) (by kernel_rfl) (by simp) ?_
      intro j hj
      obtain rfl := List.mem_singleton.1 hj
      refine wpOp_shut rfl (fun K' HK => ?_)
      go_simp
      refine HK.out _ _ ⟨.inr ?_, ?_⟩
      · exact ⟨keepc HB6.out e0, keepc HB6.out f0, keepc HB6.out b0, keepc HB6.out b1, keepc HB6.out b2, keepc HB6.out b3, keepc HB6.out b4⟩
      clear HK K'
      try simp only [Act.put]
      refine wpAnyU_all (rs := [20]) (by kernel_rfl) (by simp) ?_
      intro j hj
      obtain rfl := List.mem_singleton.1 hj
      refine wpOp_shut rfl (fun K' HK => ?_)
      go_simp
      refine HK.out _ _ ⟨.inl rfl, ?_⟩
      clear HK K'
      refine wpAnyU_done (by kernel_rfl) ?_ _
      clear k1 kf e0 f0 b0 b1 b2 b3 b4 y1 y2 y3 y4
      go_wp2_with fail
      go_ret
      have hcr : CellsR B w6 (x.cells ++ [c]) (inner ++ [.int .i64 c.kind, .int .i64 c.a, .int .i64 c.b, .slice A n p, .slice A' n' p']) := (HIn.out.move (Fr.of_below HB6.out)).append (CellsR.one ⟨_, _, rfl, (HR2.out.move (Fr.of_below HB6.out)).k, (HR2.out.move (Fr.of_below HB6.out)).v⟩)
      have hlen : (x.cells ++ [c]).length = x.cells.length + 1 := by simp
      have hg6 : w2.heap.size ≤ g6 := (HOwn6.out.lt g6 rfl).1
      have hO : Own B w6 D (.slice (some ⟨g6, 0, none⟩) (x.cells.length + 1) cp6) (x.cells ++ [c]) := ⟨⟨_, by rw [hlen]; exact own_lower HOwn6.out s2, hcr⟩, fun y hy hf => by
        obtain rfl : g6 = y := by simpa [Value.ownBlock] using hy
        have := (F2.out.foot_lt hf).1; omega⟩
      have hty := hO.typ (g := g6) rfl
      have hno := hO.no g6 rfl
      obtain ⟨A6, p6, hsl, hml, hrow⟩ := hO.slice
      rw [hlen] at hsl hrow
      injection hsl with e1 e2 e3
      subst e1 e3
      have hcapb : x.cells.length + 1 ≤ cp6 ∧ cp6 ≤ maxLen := by
        rcases HOwn6.out.2 with ⟨e, _⟩ | ⟨_, c7, _, e, _, _, r1, r2, _⟩
        · cases e
        · injection e with _ _ e; subst e; exact ⟨r1, r2⟩
      have hfin := (H2.out.below HB6.out).cellsTo HB2.out (A := some ⟨g6, 0, none⟩) (n := x.cells.length + 1) (c := cp6) (l := x.cells ++ [c]) hlen hcapb.1 hcapb.2 (fun e => by cases e) hrow (fun y hy => by
        obtain rfl := Option.some.inj hy
        exact ⟨hty.2, hty.1.lt, hno, .inl hty.1⟩)
      rw [Nat.add_zero, List.set_set] at hfin
      exact ⟨rfl, ps, next', HO.out, hfin.1, ((RGo.below HW.out).trans (HG2.out.trans (RGo.below HB6.out))).trans hfin.2⟩
    · have hdum : True := trivial
      clear hdum
      refine wpOp_shut rfl (fun K' HK => ?_)
      go_simp
      refine HK.out _ _ ⟨.inr ?_, ?_⟩
      · exact ⟨keepc W2.out e0, keepc W2.out f0, keepc W2.out b0, keepc W2.out b1, keepc W2.out b2, keepc W2.out b3, keepc W2.out b4⟩
      clear HK K'
      try simp only [Act.put]
      refine wpAnyU_all (rs := [14]) (by kernel_rfl) (by simp) ?_
      intro j hj
      obtain rfl := List.mem_singleton.1 hj
      refine wpOp_shut rfl (fun K' HK => ?_)
      (refine step_copy _ (by rfl) _ _ _ (by rfl) w2.heap.size 31 i0 (.agg #[.int .i64 0, .int .i64 0, .int .i64 0, .slice none 0 0, .slice none 0 0]) 5 72 Try.underlying44 HI.out hz0 hz1 hz2 rfl (by decide) (w2.heap.size) (by rfl) M2.out A3 x.cells.length p3 inner (by rfl) HLen.out (fun ad e j u hu => keepc W2.out (HCell.out ad e j u hu)) HA.out HOne.out (by unfold maxLen; omega) (by omega) W2.out.size ?_; intro g4 cp4 w4 hown hgrow hat hlt4; have hg4 : w2.heap.size ≤ g4 := (hown.lt g4 rfl).1; have HB4 := hid (W2.out.grown hgrow W2.out.size (fun y hy => by simp at hy; omega)); have HOwn4 := hid hown; have HG4 := hid hg4; have HNb := hid (box_news ((hgrow.block (w2.heap.size + 1) (by simp; try omega) (by simp)).trans X2.out)); have hs4 : w2.heap.size ≤ w4.heap.size := HB4.out.size; clear hown hat hlt4)
      refine HK.out _ _ ⟨.inr ?_, ?_⟩
      · exact ⟨keepc HB4.out e0, keepc HB4.out f0, keepc HB4.out b0, keepc HB4.out b1, keepc HB4.out b2, keepc HB4.out b3, keepc HB4.out b4⟩
      clear HK K' hgrow
      try simp only [Act.put]
      refine wpAnyU_all (rs := [17]) (by kernel_rfl) (by simp) ?_
      intro j hj
      obtain rfl := List.mem_singleton.1 hj
      refine wpOp_shut rfl (fun K' HK => ?_)
      (refine step_append_lies _ (by rfl) _ _ _ (by rfl) w2.heap.size 31 i0 (.agg #[.int .i64 0, .int .i64 0, .int .i64 0, .slice none 0 0, .slice none 0 0]) 5 72 Try.underlying44 HI.out hz0 hz1 hz2 rfl (by decide) (.slice (some ⟨g4, 0, none⟩) x.cells.length cp4) x.cells.length inner (by rfl) HOwn4.out ⟨w2.heap.size + 1, 0, none⟩ 1 1 [.int .i64 c.kind, .int .i64 c.a, .int .i64 c.b, .slice A n p, .slice A' n' p'] (by rfl) rfl HNb.out (by simp [Value.oneCell']) (by decide) (by unfold maxLen; omega) (by omega) HB4.out.size _ rfl ?_; intro g6 cp6 w6 hown hgrow hat hlt6; have HB6 := hid (HB4.out.grown hgrow HB4.out.size (fun y hy => by simp [Value.ownBlock] at hy; have := HG4.out; omega)); have HOwn6 := hid hown; have k0 := (H2.out.below HB6.out).at_ HB2.out; have kf := ((H2.out.below HB6.out).frozen (b * 3)).1; obtain ⟨A7, p7, A8, p8, k1, -⟩ := k0; clear hown hat hlt6)
      refine HK.out _ _ ⟨.inr ?_, ?_⟩
      · exact ⟨keepc HB6.out e0, keepc HB6.out f0, keepc HB6.out b0, keepc HB6.out b1, keepc HB6.out b2, keepc HB6.out b3, keepc HB6.out b4⟩
      clear HK K' hgrow
      try simp only [Act.put]
      refine wpAnyU_all (rs := [18]) (by kernel_rfl) (by simp) ?_
      intro j hj
      obtain rfl := List.mem_singleton.1 hj
      refine wpOp_shut rfl (fun K' HK => ?_)
      go_simp
      refine HK.out _ _ ⟨.inr ?_, ?_⟩
      · exact ⟨keepc HB6.out e0, keepc HB6.out f0, keepc HB6.out b0, keepc HB6.out b1, keepc HB6.out b2, keepc HB6.out b3, keepc HB6.out b4⟩
      clear HK K'
      try simp only [Act.put]
      refine wpAnyU_all (rs := [19]) (by kernel_rfl) (by simp) ?_
      intro j hj
      obtain rfl := List.mem_singleton.1 hj
      refine wpOp_shut rfl (fun K' HK => ?_)
      go_simp
      refine HK.out _ _ ⟨.inr ?_, ?_⟩
      · exact ⟨keepc HB6.out e0, keepc HB6.out f0, keepc HB6.out b0, keepc HB6.out b1, keepc HB6.out b2, keepc HB6.out b3, keepc HB6.out b4⟩
      clear HK K'
      try simp only [Act.put]
      refine wpAnyU_all (rs := [20]) (by kernel_rfl) (by simp) ?_
      intro j hj
      obtain rfl := List.mem_singleton.1 hj
      refine wpOp_shut rfl (fun K' HK => ?_)
      go_simp
      refine HK.out _ _ ⟨.inl rfl, ?_⟩
      clear HK K'
      refine wpAnyU_done (by kernel_rfl) ?_ _
      clear k1 kf e0 f0 b0 b1 b2 b3 b4 y1 y2 y3 y4
      go_wp2_with fail
      go_ret
      have hcr : CellsR B w6 (x.cells ++ [c]) (inner ++ [.int .i64 c.kind, .int .i64 c.a, .int .i64 c.b, .slice A n p, .slice A' n' p']) := (HIn.out.move (Fr.of_below HB6.out)).append (CellsR.one ⟨_, _, rfl, (HR2.out.move (Fr.of_below HB6.out)).k, (HR2.out.move (Fr.of_below HB6.out)).v⟩)
      have hlen : (x.cells ++ [c]).length = x.cells.length + 1 := by simp
      have hg6 : w2.heap.size ≤ g6 := (HOwn6.out.lt g6 rfl).1
      have hO : Own B w6 D (.slice (some ⟨g6, 0, none⟩) (x.cells.length + 1) cp6) (x.cells ++ [c]) := ⟨⟨_, by rw [hlen]; exact own_lower HOwn6.out s2, hcr⟩, fun y hy hf => by
        obtain rfl : g6 = y := by simpa [Value.ownBlock] using hy
        have := (F2.out.foot_lt hf).1; omega⟩
      have hty := hO.typ (g := g6) rfl
      have hno := hO.no g6 rfl
      obtain ⟨A6, p6, hsl, hml, hrow⟩ := hO.slice
      rw [hlen] at hsl hrow
      injection hsl with e1 e2 e3
      subst e1 e3
      have hcapb : x.cells.length + 1 ≤ cp6 ∧ cp6 ≤ maxLen := by
        rcases HOwn6.out.2 with ⟨e, _⟩ | ⟨_, c7, _, e, _, _, r1, r2, _⟩
        · cases e
        · injection e with _ _ e; subst e; exact ⟨r1, r2⟩
      have hfin := (H2.out.below HB6.out).cellsTo HB2.out (A := some ⟨g6, 0, none⟩) (n := x.cells.length + 1) (c := cp6) (l := x.cells ++ [c]) hlen hcapb.1 hcapb.2 (fun e => by cases e) hrow (fun y hy => by
        obtain rfl := Option.some.inj hy
        exact ⟨hty.2, hty.1.lt, hno, .inl hty.1⟩)
      rw [Nat.add_zero, List.set_set] at hfin
      exact ⟨rfl, ps, next', HO.out, hfin.1, ((RGo.below HW.out).trans (HG2.out.trans (RGo.below HB6.out))).trans hfin.2⟩
  · have hdum : True := trivial
    clear hdum
    refine wpOp_shut rfl (fun K' HK => ?_)
    go_simp
    refine HK.out _ _ ⟨.inr ?_, ?_⟩
    · exact ⟨keepc (show Below w2.heap.size w2 (w2.alloc (.cells #[.int .i64 c.kind, .int .i64 c.a, .int .i64 c.b, .slice A n p, .slice A' n' p'] 31)).drew from ((Below.refl w2.heap.size w2).alloc (Nat.le_refl _) (.cells #[.int .i64 c.kind, .int .i64 c.a, .int .i64 c.b, .slice A n p, .slice A' n' p'] 31)).drew) e0, keepc (show Below w2.heap.size w2 (w2.alloc (.cells #[.int .i64 c.kind, .int .i64 c.a, .int .i64 c.b, .slice A n p, .slice A' n' p'] 31)).drew from ((Below.refl w2.heap.size w2).alloc (Nat.le_refl _) (.cells #[.int .i64 c.kind, .int .i64 c.a, .int .i64 c.b, .slice A n p, .slice A' n' p'] 31)).drew) f0, keepc (show Below w2.heap.size w2 (w2.alloc (.cells #[.int .i64 c.kind, .int .i64 c.a, .int .i64 c.b, .slice A n p, .slice A' n' p'] 31)).drew from ((Below.refl w2.heap.size w2).alloc (Nat.le_refl _) (.cells #[.int .i64 c.kind, .int .i64 c.a, .int .i64 c.b, .slice A n p, .slice A' n' p'] 31)).drew) b0, keepc (show Below w2.heap.size w2 (w2.alloc (.cells #[.int .i64 c.kind, .int .i64 c.a, .int .i64 c.b, .slice A n p, .slice A' n' p'] 31)).drew from ((Below.refl w2.heap.size w2).alloc (Nat.le_refl _) (.cells #[.int .i64 c.kind, .int .i64 c.a, .int .i64 c.b, .slice A n p, .slice A' n' p'] 31)).drew) b1, keepc (show Below w2.heap.size w2 (w2.alloc (.cells #[.int .i64 c.kind, .int .i64 c.a, .int .i64 c.b, .slice A n p, .slice A' n' p'] 31)).drew from ((Below.refl w2.heap.size w2).alloc (Nat.le_refl _) (.cells #[.int .i64 c.kind, .int .i64 c.a, .int .i64 c.b, .slice A n p, .slice A' n' p'] 31)).drew) b2, keepc (show Below w2.heap.size w2 (w2.alloc (.cells #[.int .i64 c.kind, .int .i64 c.a, .int .i64 c.b, .slice A n p, .slice A' n' p'] 31)).drew from ((Below.refl w2.heap.size w2).alloc (Nat.le_refl _) (.cells #[.int .i64 c.kind, .int .i64 c.a, .int .i64 c.b, .slice A n p, .slice A' n' p'] 31)).drew) b3, keepc (show Below w2.heap.size w2 (w2.alloc (.cells #[.int .i64 c.kind, .int .i64 c.a, .int .i64 c.b, .slice A n p, .slice A' n' p'] 31)).drew from ((Below.refl w2.heap.size w2).alloc (Nat.le_refl _) (.cells #[.int .i64 c.kind, .int .i64 c.a, .int .i64 c.b, .slice A n p, .slice A' n' p'] 31)).drew) b4⟩
    clear HK K'
    try simp only [Act.put]
    refine wpAnyU_all (rs := [5]) (by kernel_rfl) (by simp) ?_
    intro j hj
    obtain rfl := List.mem_singleton.1 hj
    refine wpOp_shut rfl (fun K' HK => ?_)
    go_simp
    refine HK.out _ _ ⟨.inr ?_, ?_⟩
    · exact ⟨keepc W3.out e0, keepc W3.out f0, keepc W3.out b0, keepc W3.out b1, keepc W3.out b2, keepc W3.out b3, keepc W3.out b4⟩
    clear HK K'
    try simp only [Act.put]
    refine wpAnyU_all (rs := [14]) (by kernel_rfl) (by simp) ?_
    intro j hj
    obtain rfl := List.mem_singleton.1 hj
    refine wpOp_shut rfl (fun K' HK => ?_)
    (refine step_copy _ (by rfl) _ _ _ (by rfl) w2.heap.size 31 i0 (.agg #[.int .i64 0, .int .i64 0, .int .i64 0, .slice none 0 0, .slice none 0 0]) 5 72 Try.underlying44 HI.out hz0 hz1 hz2 rfl (by decide) (w2.heap.size + 1) (by rfl) M3.out A3 x.cells.length p3 inner (by rfl) HLen.out (fun ad e j u hu => keepc W3.out (HCell.out ad e j u hu)) HA.out HOne.out (by unfold maxLen; omega) (by omega) W3.out.size ?_; intro g4 cp4 w4 hown hgrow hat hlt4; have hg4 : w2.heap.size ≤ g4 := (hown.lt g4 rfl).1; have HB4 := hid (W3.out.grown hgrow W3.out.size (fun y hy => by simp at hy; omega)); have HOwn4 := hid hown; have HG4 := hid hg4; have HNb := hid (box_news ((hgrow.block w2.heap.size (by simp; try omega) (by simp)).trans X3.out)); have hs4 : w2.heap.size ≤ w4.heap.size := HB4.out.size; clear hown hat hlt4)
    refine HK.out _ _ ⟨.inr ?_, ?_⟩
    · exact ⟨keepc HB4.out e0, keepc HB4.out f0, keepc HB4.out b0, keepc HB4.out b1, keepc HB4.out b2, keepc HB4.out b3, keepc HB4.out b4⟩
    clear HK K' hgrow
    try simp only [Act.put]
    refine wpAnyU_all (rs := [17]) (by kernel_rfl) (by simp) ?_
    intro j hj
    obtain rfl := List.mem_singleton.1 hj
    refine wpOp_shut rfl (fun K' HK => ?_)
    (refine step_append_lies _ (by rfl) _ _ _ (by rfl) w2.heap.size 31 i0 (.agg #[.int .i64 0, .int .i64 0, .int .i64 0, .slice none 0 0, .slice none 0 0]) 5 72 Try.underlying44 HI.out hz0 hz1 hz2 rfl (by decide) (.slice (some ⟨g4, 0, none⟩) x.cells.length cp4) x.cells.length inner (by rfl) HOwn4.out ⟨w2.heap.size, 0, none⟩ 1 1 [.int .i64 c.kind, .int .i64 c.a, .int .i64 c.b, .slice A n p, .slice A' n' p'] (by rfl) rfl HNb.out (by simp [Value.oneCell']) (by decide) (by unfold maxLen; omega) (by omega) HB4.out.size _ rfl ?_; intro g6 cp6 w6 hown hgrow hat hlt6; have HB6 := hid (HB4.out.grown hgrow HB4.out.size (fun y hy => by simp [Value.ownBlock] at hy; have := HG4.out; omega)); have HOwn6 := hid hown; have k0 := (H2.out.below HB6.out).at_ HB2.out; have kf := ((H2.out.below HB6.out).frozen (b * 3)).1; obtain ⟨A7, p7, A8, p8, k1, -⟩ := k0; clear hown hat hlt6)
    refine HK.out _ _ ⟨.inr ?_, ?_⟩
    · exact ⟨keepc HB6.out e0, keepc HB6.out f0, keepc HB6.out b0, keepc HB6.out b1, keepc HB6.out b2, keepc HB6.out b3, keepc HB6.out b4⟩
    clear HK K' hgrow
    try simp only [Act.put]
    refine wpAnyU_all (rs := [18]) (by kernel_rfl) (by simp) ?_
    intro j hj
    obtain rfl := List.mem_singleton.1 hj
    refine wpOp_shut rfl (fun K' HK => ?_)
    go_simp
    refine HK.out _ _ ⟨.inr ?_, ?_⟩
    · exact ⟨keepc HB6.out e0, keepc HB6.out f0, keepc HB6.out b0, keepc HB6.out b1, keepc HB6.out b2, keepc HB6.out b3, keepc HB6.out b4⟩
    clear HK K'
    try simp only [Act.put]
    refine wpAnyU_all (rs := [19]) (by kernel_rfl) (by simp) ?_
    intro j hj
    obtain rfl := List.mem_singleton.1 hj
    refine wpOp_shut rfl (fun K' HK => ?_)
    go_simp
    refine HK.out _ _ ⟨.inr ?_, ?_⟩
    · exact ⟨keepc HB6.out e0, keepc HB6.out f0, keepc HB6.out b0, keepc HB6.out b1, keepc HB6.out b2, keepc HB6.out b3, keepc HB6.out b4⟩
    clear HK K'
    try simp only [Act.put]
    refine wpAnyU_all (rs := [20]) (by kernel_rfl) (by simp) ?_
    intro j hj
    obtain rfl := List.mem_singleton.1 hj
    refine wpOp_shut rfl (fun K' HK => ?_)
    go_simp
    refine HK.out _ _ ⟨.inl rfl, ?_⟩
    clear HK K'
    refine wpAnyU_done (by kernel_rfl) ?_ _
    clear k1 kf e0 f0 b0 b1 b2 b3 b4 y1 y2 y3 y4
    go_wp2_with fail
    go_ret
    have hcr : CellsR B w6 (x.cells ++ [c]) (inner ++ [.int .i64 c.kind, .int .i64 c.a, .int .i64 c.b, .slice A n p, .slice A' n' p']) := (HIn.out.move (Fr.of_below HB6.out)).append (CellsR.one ⟨_, _, rfl, (HR2.out.move (Fr.of_below HB6.out)).k, (HR2.out.move (Fr.of_below HB6.out)).v⟩)
    have hlen : (x.cells ++ [c]).length = x.cells.length + 1 := by simp
    have hg6 : w2.heap.size ≤ g6 := (HOwn6.out.lt g6 rfl).1
    have hO : Own B w6 D (.slice (some ⟨g6, 0, none⟩) (x.cells.length + 1) cp6) (x.cells ++ [c]) := ⟨⟨_, by rw [hlen]; exact own_lower HOwn6.out s2, hcr⟩, fun y hy hf => by
      obtain rfl : g6 = y := by simpa [Value.ownBlock] using hy
      have := (F2.out.foot_lt hf).1; omega⟩
    have hty := hO.typ (g := g6) rfl
    have hno := hO.no g6 rfl
    obtain ⟨A6, p6, hsl, hml, hrow⟩ := hO.slice
    rw [hlen] at hsl hrow
    injection hsl with e1 e2 e3
    subst e1 e3
    have hcapb : x.cells.length + 1 ≤ cp6 ∧ cp6 ≤ maxLen := by
      rcases HOwn6.out.2 with ⟨e, _⟩ | ⟨_, c7, _, e, _, _, r1, r2, _⟩
      · cases e
      · injection e with _ _ e; subst e; exact ⟨r1, r2⟩
    have hfin := (H2.out.below HB6.out).cellsTo HB2.out (A := some ⟨g6, 0, none⟩) (n := x.cells.length + 1) (c := cp6) (l := x.cells ++ [c]) hlen hcapb.1 hcapb.2 (fun e => by cases e) hrow (fun y hy => by
      obtain rfl := Option.some.inj hy
      exact ⟨hty.2, hty.1.lt, hno, .inl hty.1⟩)
    rw [Nat.add_zero, List.set_set] at hfin
    exact ⟨rfl, ps, next', HO.out, hfin.1, ((RGo.below HW.out).trans (HG2.out.trans (RGo.below HB6.out))).trans hfin.2⟩
end
end Go.Proofs.Ytljbdmmidajmdaa.Pg
