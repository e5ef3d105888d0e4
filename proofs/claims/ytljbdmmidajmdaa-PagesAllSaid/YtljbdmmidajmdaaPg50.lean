/- An argument's asks, opened. -/
import Derived.Test.YtljbdmmidajmdaaPg33
namespace Go.Proofs.Ytljbdmmidajmdaa.Pg
open Go.RowKit Go.ChangeShapes Go.WideShapes Go.Deep

/-- What is asked of a book. -/
structure AD where
  do_ : Int
  book : Int
  at_ : Int
  cell : CD
/-- An ask in memory: three numbers, then a cell. -/
def AskAt (B : Nat) (w : World) (b o : Nat) (a : AD) : Prop :=
  w.cell? ⟨b, o, none⟩ = some (.int .i64 a.do_) ∧ w.cell? ⟨b, o + 1, none⟩ = some (.int .i64 a.book) ∧ w.cell? ⟨b, o + 2, none⟩ = some (.int .i64 a.at_) ∧ CellAt B w b (o + 3) a.cell ∧
    (-9223372036854775808 ≤ a.book ∧ a.book ≤ 9223372036854775807) ∧ (-9223372036854775808 ≤ a.at_ ∧ a.at_ ≤ 9223372036854775807)
instance : Inhabited AD := ⟨⟨0, 0, 0, ⟨0, 0, 0, [], []⟩⟩⟩
section
variable {H : Type} {enc : TypeId × Value → H} {W : World}
set_option maxRecDepth 100000 in
theorem open_ask {n : Nat} {cs : List Value} {y : DataW H × List MemPlace} (h : DataW.trod enc Try.prog W 0 (fun _ => true) true n 52 cs = some y) :
    ∃ (d bk a : Int) (c : CD) (ks vl : Value), cs = [.int .i64 d, .int .i64 bk, .int .i64 a, .int .i64 c.kind, .int .i64 c.a, .int .i64 c.b, ks, vl] ∧ Reads W.heap.size W c ks vl ∧ (Lit.int .i64 bk).wf = true ∧ (Lit.int .i64 a).wf = true := by
  obtain ⟨xs, k, _, _, hl, hxl, hf⟩ := DataW.trod_struct Try.underlying52 h
  have hsz : Try.prog.cellsOf 52 = 8 := by kernel_rfl
  rw [hsz] at hl
  match cs, hl with
  | [v0, v1, v2, v3, v4, v5, v6, v7], _ =>
    have hxs : xs.length = 4 := hxl
    match xs, hxs with
    | [y0, y1, y2, y3], _ =>
      have g0 := hf 0 _ rfl
      have g1 := hf 1 _ rfl
      have g2 := hf 2 _ rfl
      have g3 := hf 3 _ rfl
      have c1 : Try.prog.cellsOf 3 = 1 := by kernel_rfl
      have c2 : Try.prog.cellsOf 31 = 5 := by kernel_rfl
      simp [c1, c2] at g0 g1 g2 g3
      obtain ⟨i0, e0, _⟩ := DataW.trod_int Try.underlying3 g0
      obtain ⟨i1, e1, _, w1⟩ := DataW.trod_int Try.underlying3 g1
      obtain ⟨i2, e2, _, w2⟩ := DataW.trod_int Try.underlying3 g2
      obtain ⟨c, ks, vl, e3, hr⟩ := open_cell g3
      simp at e0 e1 e2 e3
      obtain ⟨rfl, rfl, rfl, rfl, rfl⟩ := e3
      subst e0 e1 e2
      exact ⟨i0, i1, i2, c, v6, v7, rfl, hr, w1, w2⟩
set_option maxRecDepth 100000 in
theorem open_asks {fuel : Nat} {A : Option Addr} {len cap : Nat} {x : DataW H × List MemPlace} (h : DataW.trod enc Try.prog W 0 (fun _ => true) true fuel 42 [.slice A len cap] = some x) :
    len ≤ maxLen ∧ ∃ l : List AD, l.length = len ∧ ∀ j a, l[j]? = some a → ∃ b o, A = some ⟨b, o, none⟩ ∧ AskAt W.heap.size W b (o + j * 8) a := by
  rcases open_slice Try.underlying42 h with ⟨hv, _⟩ | ⟨a, len', cap', m, n, D, Pl, hv, _, hl, hm, hmm, _, hx⟩
  · simp at hv
    obtain ⟨rfl, rfl, rfl⟩ := hv
    exact ⟨by decide, [], rfl, fun j c hj => by simp at hj⟩
  · simp at hv
    obtain ⟨rfl, rfl, rfl⟩ := hv
    have hmc : m = cap := by simpa using hmm
    refine ⟨by omega, ?_⟩
    have hsz : Try.prog.cellsOf 52 = 8 := by kernel_rfl
    have each : ∀ i, i < len → ∃ c : AD, ∃ b o, some a = some (⟨b, o, none⟩ : Addr) ∧ AskAt W.heap.size W b (o + i * 8) c := by
      intro i hi
      obtain ⟨cs, h1, h2⟩ := hx i (by omega)
      rw [hsz] at h1
      obtain ⟨_, hlen, hcell⟩ := World.cells?_some h1
      obtain ⟨d, bk, at0, c, ks, vl, rfl, hr, wb, wa⟩ := open_ask h2
      obtain ⟨A1, n1, p1, rfl, _⟩ := id hr.k
      obtain ⟨A2, n2, p2, rfl, _⟩ := id hr.v
      obtain ⟨cs0, g1, _⟩ := hx 0 (by omega)
      rw [hsz] at g1
      have g2 := (World.cells?_some g1).2.2 0 (by omega)
      have g3 := (World.cells?_some g1).2.1
      have hs : a = ⟨a.block, a.off, none⟩ := by
        rw [add_add, show a.add (0 * 8 + 0) = a by simp [Addr.add], List.getElem?_eq_getElem (by omega)] at g2
        exact spot_none g2
      have e : ∀ k u, k < 8 → [Value.int .i64 d, .int .i64 bk, .int .i64 at0, .int .i64 c.kind, .int .i64 c.a, .int .i64 c.b, .slice A1 n1 p1, .slice A2 n2 p2][k]? = some u → W.cell? ⟨a.block, a.off + i * 8 + k, none⟩ = some u := fun k u hk hu => by
        have := hcell k hk
        rw [add_add, hs, add_plain, ← Nat.add_assoc] at this
        exact this.trans hu
      exact ⟨⟨d, bk, at0, c⟩, a.block, a.off, congrArg some hs, e 0 _ (by omega) rfl, e 1 _ (by omega) rfl, e 2 _ (by omega) rfl, ⟨A1, n1, p1, A2, n2, p2, e 3 _ (by omega) rfl, e 4 _ (by omega) rfl, e 5 _ (by omega) rfl, e 6 _ (by omega) rfl, e 7 _ (by omega) rfl, hr⟩, bounds_i64 wb, bounds_i64 wa⟩
    obtain ⟨q, hq⟩ := choose_lt each
    refine ⟨(List.range len).map q, by simp, fun j c hj => ?_⟩
    have hjl := (List.getElem?_eq_some_iff.1 hj).1
    simp only [List.length_map, List.length_range] at hjl
    have hcj : c = q j := by
      rw [List.getElem?_eq_getElem (by simpa using hjl)] at hj
      simpa using hj.symm
    subst hcj
    exact hq j hjl
end
end Go.Proofs.Ytljbdmmidajmdaa.Pg
