/- Cells of an argument, opened; rows of cells. -/
import Derived.Test.YtljbdmmidajmdaaPg31
import Derived.Deep.Slices
import Derived.ChangeSame
import Derived.ChangeArms
namespace Go.Proofs.Ytljbdmmidajmdaa.Pg
open Go.RowKit Go.ChangeShapes Go.WideShapes Go.Deep

theorem spot_none {w : World} {a : Addr} {v : Value} (h : w.cell? a = some v) : a = ⟨a.block, a.off, none⟩ := by
  unfold World.cell? at h
  split at h
  · split at h
    · cases h
    · rename_i hs
      cases a with
      | mk b o s =>
        cases s with
        | none => rfl
        | some k => simp at hs
  · cases h

/-- A cell's five values in memory. -/
def CellAt (B : Nat) (w : World) (b o : Nat) (c : CD) : Prop :=
  ∃ A n cap A' n' cap', w.cell? ⟨b, o, none⟩ = some (.int .i64 c.kind) ∧ w.cell? ⟨b, o + 1, none⟩ = some (.int .i64 c.a) ∧ w.cell? ⟨b, o + 2, none⟩ = some (.int .i64 c.b) ∧
    w.cell? ⟨b, o + 3, none⟩ = some (.slice A n cap) ∧ w.cell? ⟨b, o + 4, none⟩ = some (.slice A' n' cap') ∧ Reads B w c (.slice A n cap) (.slice A' n' cap')
/-- A slice that reads as a list of cells. -/
structure CRow (B : Nat) (w : World) (A : Option Addr) (n : Nat) (l : List CD) : Prop where
  len : l.length = n
  at_ : ∀ j c, l[j]? = some c → ∃ b o, A = some ⟨b, o, none⟩ ∧ CellAt B w b (o + j * 5) c

section
variable {B : Nat} {w w' : World} {A : Option Addr} {n b o : Nat} {l : List CD} {c : CD}
theorem CellAt.lt (h : CellAt B w b o c) : b < w.heap.size := by obtain ⟨_, _, _, _, _, _, h, _⟩ := h; exact block_lt_of_cell h
theorem CellAt.move (h : CellAt B w b o c) (hf : Fr B w w') (hb : w'.heap[b]? = w.heap[b]?) : CellAt B w' b o c := by
  obtain ⟨A, n, cap, A', n', cap', h0, h1, h2, h3, h4, h5⟩ := h
  have e : ∀ k, w'.cell? ⟨b, k, none⟩ = w.cell? ⟨b, k, none⟩ := fun k => World.cell?_of_block (a := ⟨b, k, none⟩) hb
  exact ⟨A, n, cap, A', n', cap', (e _).trans h0, (e _).trans h1, (e _).trans h2, (e _).trans h3, (e _).trans h4, h5.move hf⟩
theorem CellAt.below (h : CellAt B w b o c) (hb : Below w.heap.size w w') : CellAt B w' b o c := h.move (Fr.of_below hb) (hb.block b h.lt)
theorem CRow.below (h : CRow B w A n l) (hb : Below w.heap.size w w') : CRow B w' A n l :=
  ⟨h.len, fun j c hj => by obtain ⟨b, o, e, hc⟩ := h.at_ j c hj; exact ⟨b, o, e, hc.below hb⟩⟩
end

section
variable {H : Type} {enc : TypeId × Value → H} {W : World}
theorem open_rows {t e : TypeId} {sz : Nat} {α : Type} [Inhabited α] (R : α → List Value) (ht : Try.prog.underlying t = some (.slice e)) (hsz : Try.prog.cellsOf e = sz) (h0 : 0 < sz) (hRl : ∀ d, (R d).length = sz)
    (hR : ∀ n cs y, DataW.trod enc Try.prog W 0 (fun _ => true) true n e cs = some y → ∃ d, cs = R d)
    {fuel : Nat} {v : Value} {x : DataW H × List MemPlace} (h : DataW.trod enc Try.prog W 0 (fun _ => true) true fuel t [v] = some x) : ∃ xs : List α, RowR W.heap.size W sz v (xs.map R) := by
  rcases open_slice ht h with ⟨hv, _⟩ | ⟨a, len, cap, m, n, D, Pl, hv, _, hl, hm, hmm, _, hx⟩
  · have hv := List.cons.inj hv
    rw [hv.1]
    exact ⟨[], RowR.nil _ _ _⟩
  · have hv := List.cons.inj hv
    rw [hv.1]
    have hmc : m = cap := by simpa using hmm
    have each : ∀ i, i < len → ∃ d : α, ∀ k u, (R d)[k]? = some u → W.cell? (a.add (i * sz + k)) = some u := by
      intro i hi
      obtain ⟨cs, h1, h2⟩ := hx i (by omega)
      rw [hsz] at h1
      obtain ⟨_, hlen, hcell⟩ := World.cells?_some h1
      obtain ⟨d, rfl⟩ := hR _ _ _ h2
      refine ⟨d, fun k u hu => ?_⟩
      have hk := (List.getElem?_eq_some_iff.1 hu).1
      rw [← add_add, hcell k (by rw [hRl] at hk; exact hk)]
      exact hu
    obtain ⟨q, hq⟩ := choose_lt each
    refine ⟨(List.range len).map q, some a, len, cap, rfl, by simp, hl, hm, (fun e => by cases e), fun hpos => ?_⟩
    have hr0 : ∃ u, (R (q 0))[0]? = some u := ⟨_, List.getElem?_eq_getElem (by rw [hRl]; exact h0)⟩
    obtain ⟨u, hu⟩ := hr0
    have hc0 := hq 0 hpos 0 u hu
    have e0 : a.add (0 * sz + 0) = a := by simp [Addr.add]
    rw [e0] at hc0
    have hs := spot_none hc0
    refine ⟨a.block, a.off, congrArg some hs, ⟨block_lt_of_cell hc0, .inl (block_lt_of_cell hc0)⟩, fun j c hj => ?_⟩
    have hjl := (List.getElem?_eq_some_iff.1 hj).1
    simp only [List.length_map, List.length_range] at hjl
    have hcj : c = R (q j) := by
      rw [List.getElem?_eq_getElem (by simpa using hjl)] at hj
      simpa using hj.symm
    subst hcj
    refine ⟨hRl _, fun i u hu => ?_⟩
    have := hq j hjl i u hu
    rw [hs, add_plain] at this
    exact this

theorem open_keys {fuel : Nat} {v : Value} {x : DataW H × List MemPlace} (h : DataW.trod enc Try.prog W 0 (fun _ => true) true fuel 28 [v] = some x) : ∃ xs : List ByteArray, RowR W.heap.size W 1 v (xs.map keyRow) :=
  open_rows keyRow Try.underlying28 (by kernel_rfl) (by decide) (fun _ => rfl) (fun n cs y h => by
    obtain ⟨s, hs, _⟩ := DataW.trod_string Try.underlying9 h
    exact ⟨s, hs⟩) h
instance : Inhabited VD := ⟨⟨0, 0, ByteArray.empty⟩⟩
instance : Inhabited CD := ⟨⟨0, 0, 0, [], []⟩⟩

set_option maxRecDepth 100000 in
theorem open_val {n : Nat} {cs : List Value} {y : DataW H × List MemPlace} (h : DataW.trod enc Try.prog W 0 (fun _ => true) true n 60 cs = some y) : ∃ d : VD, cs = d.row := by
  obtain ⟨xs, k, _, _, hl, hxl, hf⟩ := DataW.trod_struct Try.underlying60 h
  have hsz : Try.prog.cellsOf 60 = 3 := by kernel_rfl
  rw [hsz] at hl
  match cs, hl with
  | [v0, v1, v2], _ =>
    have hxs : xs.length = 3 := hxl
    match xs, hxs with
    | [y0, y1, y2], _ =>
      have g0 := hf 0 _ rfl
      have g1 := hf 1 _ rfl
      have g2 := hf 2 _ rfl
      have c1 : Try.prog.cellsOf 3 = 1 := by kernel_rfl
      have c2 : Try.prog.cellsOf 9 = 1 := by kernel_rfl
      simp [c1, c2] at g0 g1 g2
      obtain ⟨i0, e0, _⟩ := DataW.trod_int Try.underlying3 g0
      obtain ⟨i1, e1, _⟩ := DataW.trod_int Try.underlying3 g1
      obtain ⟨s, e2, _⟩ := DataW.trod_string Try.underlying9 g2
      simp at e0 e1 e2
      subst e0 e1 e2
      exact ⟨⟨i0, i1, s⟩, rfl⟩
theorem open_vals {fuel : Nat} {v : Value} {x : DataW H × List MemPlace} (h : DataW.trod enc Try.prog W 0 (fun _ => true) true fuel 29 [v] = some x) : ∃ xs : List VD, RowR W.heap.size W 3 v (xs.map VD.row) :=
  open_rows VD.row Try.underlying29 (by kernel_rfl) (by decide) (fun _ => rfl) (fun _ _ _ h => open_val h) h
set_option maxRecDepth 100000 in
theorem open_cell {n : Nat} {cs : List Value} {y : DataW H × List MemPlace} (h : DataW.trod enc Try.prog W 0 (fun _ => true) true n 31 cs = some y) :
    ∃ (c : CD) (ks vl : Value), cs = [.int .i64 c.kind, .int .i64 c.a, .int .i64 c.b, ks, vl] ∧ Reads W.heap.size W c ks vl := by
  obtain ⟨xs, k, _, _, hl, hxl, hf⟩ := DataW.trod_struct Try.underlying31 h
  have hsz : Try.prog.cellsOf 31 = 5 := by kernel_rfl
  rw [hsz] at hl
  match cs, hl with
  | [v0, v1, v2, v3, v4], _ =>
    have hxs : xs.length = 5 := hxl
    match xs, hxs with
    | [y0, y1, y2, y3, y4], _ =>
      have g0 := hf 0 _ rfl
      have g1 := hf 1 _ rfl
      have g2 := hf 2 _ rfl
      have g3 := hf 3 _ rfl
      have g4 := hf 4 _ rfl
      have c1 : Try.prog.cellsOf 3 = 1 := by kernel_rfl
      have c2 : Try.prog.cellsOf 28 = 1 := by kernel_rfl
      have c3 : Try.prog.cellsOf 29 = 1 := by kernel_rfl
      simp [c1, c2, c3] at g0 g1 g2 g3 g4
      obtain ⟨i0, e0, _⟩ := DataW.trod_int Try.underlying3 g0
      obtain ⟨i1, e1, _⟩ := DataW.trod_int Try.underlying3 g1
      obtain ⟨i2, e2, _⟩ := DataW.trod_int Try.underlying3 g2
      obtain ⟨ks, hk⟩ := open_keys g3
      obtain ⟨vs, hv⟩ := open_vals g4
      simp at e0 e1 e2
      subst e0 e1 e2
      exact ⟨⟨i0, i1, i2, ks, vs⟩, v3, v4, rfl, hk, hv⟩
set_option maxRecDepth 100000 in
theorem open_cells {fuel : Nat} {A : Option Addr} {len cap : Nat} {x : DataW H × List MemPlace} (h : DataW.trod enc Try.prog W 0 (fun _ => true) true fuel 44 [.slice A len cap] = some x) :
    len ≤ maxLen ∧ ∃ l : List CD, CRow W.heap.size W A len l := by
  rcases open_slice Try.underlying44 h with ⟨hv, _⟩ | ⟨a, len', cap', m, n, D, Pl, hv, _, hl, hm, hmm, _, hx⟩
  · simp at hv
    obtain ⟨rfl, rfl, rfl⟩ := hv
    exact ⟨by decide, [], rfl, fun j c hj => by simp at hj⟩
  · simp at hv
    obtain ⟨rfl, rfl, rfl⟩ := hv
    have hmc : m = cap := by simpa using hmm
    refine ⟨by omega, ?_⟩
    have each : ∀ i, i < len → ∃ c : CD, ∃ b o, some a = some (⟨b, o, none⟩ : Addr) ∧ CellAt W.heap.size W b (o + i * 5) c := by
      intro i hi
      obtain ⟨cs, h1, h2⟩ := hx i (by omega)
      have hsz : Try.prog.cellsOf 31 = 5 := by kernel_rfl
      rw [hsz] at h1
      obtain ⟨_, hlen, hcell⟩ := World.cells?_some h1
      obtain ⟨c, ks, vl, rfl, hr⟩ := open_cell h2
      obtain ⟨A1, n1, p1, rfl, _⟩ := id hr.k
      obtain ⟨A2, n2, p2, rfl, _⟩ := id hr.v
      obtain ⟨cs0, g1, _⟩ := hx 0 (by omega)
      rw [hsz] at g1
      have g2 := (World.cells?_some g1).2.2 0 (by omega)
      have g3 := (World.cells?_some g1).2.1
      have hs : a = ⟨a.block, a.off, none⟩ := by
        rw [add_add, show a.add (0 * 5 + 0) = a by simp [Addr.add], List.getElem?_eq_getElem (by omega)] at g2
        exact spot_none g2
      have e : ∀ k u, k < 5 → [Value.int .i64 c.kind, .int .i64 c.a, .int .i64 c.b, .slice A1 n1 p1, .slice A2 n2 p2][k]? = some u → W.cell? ⟨a.block, a.off + i * 5 + k, none⟩ = some u := fun k u hk hu => by
        have := hcell k hk
        rw [add_add, hs, add_plain, ← Nat.add_assoc] at this
        exact this.trans hu
      exact ⟨c, a.block, a.off, congrArg some hs, A1, n1, p1, A2, n2, p2, e 0 _ (by omega) rfl, e 1 _ (by omega) rfl, e 2 _ (by omega) rfl, e 3 _ (by omega) rfl, e 4 _ (by omega) rfl, hr⟩
    obtain ⟨q, hq⟩ := choose_lt each
    refine ⟨(List.range len).map q, by simp, fun j c hj => ?_⟩
    have hjl := (List.getElem?_eq_some_iff.1 hj).1
    simp only [List.length_map, List.length_range] at hjl
    have hcj : c = q j := by
      rw [List.getElem?_eq_getElem (by simpa using hjl)] at hj
      simpa using hj.symm
    subst hcj
    exact hq j hjl
end
end Go.Proofs.Ytljbdmmidajmdaa.Pg
